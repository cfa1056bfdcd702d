/- Walks through the functions that the law reaches (printed by a program). No condition. -/
import Derived.Test.YtdhenoidmialaaaM
import Derived.Test.YtdhenoidmialaaaS
namespace Go.Proofs.Ytdhenoidmialaaa
namespace Fw
set_option linter.unusedVariables false
set_option linter.unusedSimpArgs false
set_option linter.unusedSectionVars false
open Go.RowKit
set_option maxRecDepth 100000 in
set_option maxHeartbeats 400000 in
theorem t_ring_Right {Γ : Gh} {w0 : World} {Amembers : Option Addr} {cmembers : Nat} {members : List Int} (hmembers : Sl intT Γ Amembers members) (hmembersc : members.length ≤ cmembers) (hs : Sat Γ w0) {r : Bool} (h : m_ring_Right members = some r) : Calls Try.prog 15 #[.slice Amembers members.length cmembers] w0 (fun e w' => e = .returned (.bool r) ∧ Fr no w0 w') := by
  refine calls_of (N := 35) (rs := [2]) (args := [.slice Amembers members.length cmembers]) Try.func15 rfl Try.ntmps15 Try.results15 rfl ?_
  obtain ⟨F, hF⟩ : ∃ F : Fm, F = ⟨no, w0, Γ⟩ := ⟨_, rfl⟩
  refine WC.here (C := CC F Γ []) ?_ (hF ▸ Cur.start0 hs)
  refine WC.rs ?_
  refine va rfl rfl rfl (q_assign (v := .bool false) rfl (by kernel_rfl)) ?_
  refine WR.nil ?_
  change WC _ _ _ _ _ _
  refine WC.seq ?_
  refine WC.rs ?_
  refine va rfl rfl rfl (q_move (v := .slice Amembers members.length cmembers) rfl (by kernel_rfl)) ?_
  refine va rfl rfl rfl (q_len_slice rfl Try.underlying22 rfl) ?_
  refine va rfl rfl rfl (q_move (v := .int .i64 0) rfl (by kernel_rfl)) ?_
  refine WR.nil ?_
  change WC _ _ _ _ _ _
  refine WC.block ?_
  refine WC.forI h (fun (i2 : Nat) (s : Unit) σ w => match s with | () => slots σ [(0, .slice Amembers members.length cmembers), (5, .slice Amembers members.length cmembers), (6, .int .i64 ((members.length : Nat) : Int)), (7, .int .i64 ((i2 : Nat) : Int))] ∧ CC F Γ [] w ∧ True) ?_ ?_
  · skip
    intro w hw
    exact ⟨(sl_ (by kernel_rfl)), hw, trivial⟩
  rintro f1 i2 ⟨⟩ σ w hi3 hlt4 hge5 ⟨hsl, hw, -⟩
  refine Wpt.slots hsl ?_
  refine WC.here (C := CC F Γ []) ?_ hw
  clear hw hsl
  refine WC.rs ?_
  refine va rfl rfl rfl (q_lss rfl rfl rfl) ?_
  refine WR.nil ?_
  change WC _ _ _ _ _ _
  refine WC.seq ?_
  refine WC.cond (b := (decide (((i2 : Nat) : Int) < ((members.length : Nat) : Int)))) (by kernel_rfl) (fun hb6 => ?_) (fun hb6 => ?_)
  · skip
    have hl7 := ilt hb6
    have h := hlt4 hl7
    refine WC.skip ?_
    change WC _ _ _ _ _ _
    refine WC.seq ?_
    refine WC.block ?_
    refine WC.rs ?_
    refine va rfl rfl rfl (q_move (v := .int .i64 ((i2 : Nat) : Int)) rfl (by kernel_rfl)) ?_
    refine va rfl rfl rfl (q_ixn (i := i2) Try.underlying22 Try.sizeOf3 rfl rfl rfl hl7 (hmembers.some_ hl7)) ?_
    refine va rfl rfl rfl (q_ld (c := 0) (v := .int .i64 (gt members i2)) (hmembers.intT_at hl7).2 rfl Try.isAgg3 rfl rfl) ?_
    refine va rfl rfl rfl (q_assign (v := .int .i64 ((i2 : Nat) : Int)) rfl (by kernel_rfl)) ?_
    refine va rfl rfl rfl (q_assign (v := .int .i64 (gt members i2)) rfl (by kernel_rfl)) ?_
    refine WR.nil ?_
    change WC _ _ _ _ _ _
    refine WC.rs ?_
    refine va rfl rfl rfl (q_move (v := .int .i64 (gt members i2)) rfl (by kernel_rfl)) ?_
    refine va rfl rfl rfl (q_lss rfl rfl rfl) ?_
    refine va rfl rfl rfl (q_move (v := .bool (decide ((gt members i2) < 1))) rfl (by kernel_rfl)) ?_
    refine vg0 rfl rfl rfl rfl rfl (fun hg8 => QV.qo (q_move (v := .int .i64 (gt members i2)) rfl (by kernel_rfl))) ?_
    refine vg0 rfl rfl rfl rfl rfl (fun hg9 => QV.qo (q_gtr rfl (gu hg9 rfl) rfl)) ?_
    refine va rfl rfl rfl (q_pick rfl rfl (pk_or' (g := (decide ((gt members i2) < 1))) (y := (decide (8 < (gt members i2)))))) ?_
    refine va rfl rfl rfl (q_move (v := .bool ((decide ((gt members i2) < 1)) || (decide (8 < (gt members i2))))) rfl (by kernel_rfl)) ?_
    refine vg0 rfl rfl rfl rfl rfl (fun hg10 => QV.qo (q_move (v := .int .i64 ((i2 : Nat) : Int)) rfl (by kernel_rfl))) ?_
    refine vg0 rfl rfl rfl rfl rfl (fun hg11 => QV.qo (q_gtr rfl (gu hg11 rfl) rfl)) ?_
    refine vg0 rfl rfl rfl rfl rfl (fun hg12 => QV.qo (q_move (v := .bool (decide (0 < ((i2 : Nat) : Int)))) rfl (gu hg12 rfl))) ?_
    refine vh1 (c0 := (!((decide ((gt members i2) < 1)) || (decide (8 < (gt members i2)))))) (g := (decide (0 < ((i2 : Nat) : Int)))) rfl rfl rfl rfl rfl (fun hg13 => QV.qo (q_move (v := .int .i64 (gt members i2)) rfl (by kernel_rfl))) ?_
    refine vh1 (c0 := (!((decide ((gt members i2) < 1)) || (decide (8 < (gt members i2)))))) (g := (decide (0 < ((i2 : Nat) : Int)))) rfl rfl rfl rfl rfl (fun hg14 => QV.qo (q_move (v := .slice Amembers members.length cmembers) rfl (by kernel_rfl))) ?_
    refine vh1 (c0 := (!((decide ((gt members i2) < 1)) || (decide (8 < (gt members i2)))))) (g := (decide (0 < ((i2 : Nat) : Int)))) rfl rfl rfl rfl rfl (fun hg15 => QV.qo (q_move (v := .int .i64 ((i2 : Nat) : Int)) rfl (by kernel_rfl))) ?_
    refine vh1 (c0 := (!((decide ((gt members i2) < 1)) || (decide (8 < (gt members i2)))))) (g := (decide (0 < ((i2 : Nat) : Int)))) rfl rfl rfl rfl rfl (fun hg16 => QV.qo (q_sub rfl (gu hg16 rfl) rfl)) ?_
    obtain ⟨hk18, h⟩ := chk_some h
    refine vh1 (c0 := (!((decide ((gt members i2) < 1)) || (decide (8 < (gt members i2)))))) (g := (decide (0 < ((i2 : Nat) : Int)))) rfl rfl rfl rfl rfl (fun hg17 => QV.qo (q_ix Try.underlying22 Try.sizeOf3 rfl (gu hg17 rfl) (gu hg17 rfl) (imp_of hk18 hg17) (hmembers.some_ (inb_lt (imp_of hk18 hg17))))) ?_
    refine vh1 (c0 := (!((decide ((gt members i2) < 1)) || (decide (8 < (gt members i2)))))) (g := (decide (0 < ((i2 : Nat) : Int)))) rfl rfl rfl rfl rfl (fun hg19 => QV.qo (q_ld (c := 0) (v := .int .i64 (gt members ((w64 (((i2 : Nat) : Int) - 1)).toNat))) (hmembers.intT_at (inb_lt (imp_of hk18 hg19))).2 rfl Try.isAgg3 (gu hg19 rfl) rfl)) ?_
    refine vh1 (c0 := (!((decide ((gt members i2) < 1)) || (decide (8 < (gt members i2)))))) (g := (decide (0 < ((i2 : Nat) : Int)))) rfl rfl rfl rfl rfl (fun hg20 => QV.qo (q_leq rfl (gu hg20 rfl) (gu hg20 rfl))) ?_
    refine vg0 rfl rfl rfl rfl rfl (fun hg21 => QV.qo (q_pick rfl (gu hg21 rfl) (pk_and (c := (!((decide ((gt members i2) < 1)) || (decide (8 < (gt members i2)))))) (g := (decide (0 < ((i2 : Nat) : Int)))) (y := (decide ((gt members i2) ≤ (gt members ((w64 (((i2 : Nat) : Int) - 1)).toNat))))) hg21))) ?_
    refine va rfl rfl rfl (q_pick rfl rfl (pk_or' (g := ((decide ((gt members i2) < 1)) || (decide (8 < (gt members i2))))) (y := ((decide (0 < ((i2 : Nat) : Int))) && (decide ((gt members i2) ≤ (gt members ((w64 (((i2 : Nat) : Int) - 1)).toNat)))))))) ?_
    refine WR.nil ?_
    change WC _ _ _ _ _ _
    refine WC.cif h (by kernel_rfl) (fun hb22 h => ?_) (fun hb22 h => ?_)
    · skip
      refine WC.rs ?_
      refine va rfl rfl rfl (q_assign (v := .bool false) rfl (by kernel_rfl)) ?_
      refine WR.nil ?_
      change WC _ _ _ _ _ _
      refine WC.ret ?_
      intro w hw
      obtain rfl := Option.some.inj h
      subst hF
      exact ⟨by kernel_rfl, hw.fr⟩
    · skip
      refine WC.skip ?_
      change WC _ _ _ _ _ _
      refine WC.region ?_
      refine va rfl rfl rfl (q_add_r (r := ((i2 + 1 : Nat) : Int)) rfl rfl rfl (ctr_len hl7 hmembers.le)) ?_
      refine va rfl rfl rfl (q_move (v := .int .i64 ((i2 + 1 : Nat) : Int)) rfl (by kernel_rfl)) ?_
      refine WR.nil ?_
      intro w hw
      exact ⟨hl7, (), h, (sl_ (by kernel_rfl)), hw, trivial⟩
  · skip
    have h := hge5 (ige hb6)
    refine WC.exit ?_
    change WC _ _ _ _ _ _
    refine WC.rs ?_
    refine va rfl rfl rfl (q_move (v := .slice Amembers members.length cmembers) rfl (by kernel_rfl)) ?_
    refine va rfl rfl rfl (q_len_slice rfl Try.underlying22 rfl) ?_
    refine va rfl rfl rfl (q_gtr rfl rfl rfl) ?_
    refine va rfl rfl rfl (q_assign (v := .bool (decide (0 < ((members.length : Nat) : Int)))) rfl (by kernel_rfl)) ?_
    refine WR.nil ?_
    change WC _ _ _ _ _ _
    refine WC.ret ?_
    intro w hw
    obtain rfl := Option.some.inj h
    subst hF
    exact ⟨by kernel_rfl, hw.fr⟩
set_option maxRecDepth 100000 in
set_option maxHeartbeats 400000 in
theorem t_num_Hash {Γ : Gh} {w0 : World} {Ab : Option Addr} {cb : Nat} {b : List UInt8} (hb : Sl byteT Γ Ab b) (hbc : b.length ≤ cb) (hs : Sat Γ w0) {r : Int} (h : m_num_Hash b = some r) : Calls Try.prog 24 #[.slice Ab b.length cb] w0 (fun e w' => e = .returned (.int .u64 r) ∧ Fr no w0 w') := by
  refine calls_of (N := 27) (rs := [2]) (args := [.slice Ab b.length cb]) Try.func24 rfl Try.ntmps24 Try.results24 rfl ?_
  obtain ⟨F, hF⟩ : ∃ F : Fm, F = ⟨no, w0, Γ⟩ := ⟨_, rfl⟩
  refine WC.here (C := CC F Γ []) ?_ (hF ▸ Cur.start0 hs)
  refine WC.rs ?_
  refine va rfl rfl rfl (q_assign (v := .int .u64 0) rfl (by kernel_rfl)) ?_
  refine WR.nil ?_
  change WC _ _ _ _ _ _
  refine WC.rs ?_
  refine va rfl rfl rfl (q_assign (v := .int .u64 14695981039346656037) rfl (by kernel_rfl)) ?_
  refine WR.nil ?_
  change WC _ _ _ _ _ _
  refine WC.seq ?_
  refine WC.rs ?_
  refine va rfl rfl rfl (q_move (v := .slice Ab b.length cb) rfl (by kernel_rfl)) ?_
  refine va rfl rfl rfl (q_len_slice rfl Try.underlying41 rfl) ?_
  refine va rfl rfl rfl (q_move (v := .int .i64 0) rfl (by kernel_rfl)) ?_
  refine WR.nil ?_
  change WC _ _ _ _ _ _
  refine WC.block ?_
  refine WC.forI h (fun (i4 : Nat) (h_1 : Int) σ w => slots σ [(3, .int .u64 h_1), (6, .slice Ab b.length cb), (7, .int .i64 ((b.length : Nat) : Int)), (8, .int .i64 ((i4 : Nat) : Int))] ∧ CC F Γ [] w ∧ U64 h_1 ∧ True) ?_ ?_
  · skip
    intro w hw
    exact ⟨(sl_ (by kernel_rfl)), hw, (show U64 14695981039346656037 by decide), trivial⟩
  rintro f3 i4 h_1 σ w hi5 hlt6 hge7 ⟨hsl, hw, hr2, -⟩
  refine Wpt.slots hsl ?_
  refine WC.here (C := CC F Γ []) ?_ hw
  clear hw hsl
  refine WC.rs ?_
  refine va rfl rfl rfl (q_lss rfl rfl rfl) ?_
  refine WR.nil ?_
  change WC _ _ _ _ _ _
  refine WC.seq ?_
  refine WC.cond (b := (decide (((i4 : Nat) : Int) < ((b.length : Nat) : Int)))) (by kernel_rfl) (fun hb8 => ?_) (fun hb8 => ?_)
  · skip
    have hl9 := ilt hb8
    have h := hlt6 hl9
    refine WC.skip ?_
    change WC _ _ _ _ _ _
    refine WC.seq ?_
    refine WC.block ?_
    refine WC.rs ?_
    refine va rfl rfl rfl (q_ixn (i := i4) Try.underlying41 Try.sizeOf5 rfl rfl rfl hl9 (hb.some_ hl9)) ?_
    refine va rfl rfl rfl (q_ld (c := 0) (v := .int .u8 (((gt b i4).toNat : Nat) : Int)) (hb.byteT_at hl9).2 rfl Try.isAgg5 rfl rfl) ?_
    refine va rfl rfl rfl (q_assign (v := .int .u8 (((gt b i4).toNat : Nat) : Int)) rfl (by kernel_rfl)) ?_
    refine WR.nil ?_
    change WC _ _ _ _ _ _
    refine WC.region ?_
    refine va rfl rfl rfl (q_move (v := .int .u64 h_1) rfl (by kernel_rfl)) ?_
    refine va rfl rfl rfl (q_move (v := .int .u8 (((gt b i4).toNat : Nat) : Int)) rfl (by kernel_rfl)) ?_
    refine va rfl rfl rfl (q_conv Try.underlying39 Try.underlying5 rfl rfl) ?_
    refine va rfl rfl rfl (q_xor rfl rfl rfl) ?_
    refine va rfl rfl rfl (q_mul rfl rfl rfl) ?_
    refine va rfl rfl rfl (q_assign (v := .int .u64 (wu64 ((ixor .u64 h_1 (wu64 (((gt b i4).toNat : Nat) : Int))) * 1099511628211))) rfl (by kernel_rfl)) ?_
    refine WR.nil ?_
    change WC _ _ _ _ _ _
    refine WC.region ?_
    refine va rfl rfl rfl (q_add_r (r := ((i4 + 1 : Nat) : Int)) rfl rfl rfl (ctr_len hl9 hb.le)) ?_
    refine va rfl rfl rfl (q_move (v := .int .i64 ((i4 + 1 : Nat) : Int)) rfl (by kernel_rfl)) ?_
    refine WR.nil ?_
    intro w hw
    exact ⟨hl9, (wu64 ((ixor .u64 h_1 (wu64 (((gt b i4).toNat : Nat) : Int))) * 1099511628211)), h, (sl_ (by kernel_rfl)), hw, (wu64_r _), trivial⟩
  · skip
    have h := hge7 (ige hb8)
    refine WC.exit ?_
    change WC _ _ _ _ _ _
    refine WC.rs ?_
    refine va rfl rfl rfl (q_move (v := .int .u64 h_1) rfl (by kernel_rfl)) ?_
    refine va rfl rfl rfl (q_move (v := .int .u64 h_1) rfl (by kernel_rfl)) ?_
    refine va rfl rfl rfl (q_shr rfl rfl rfl (by decide)) ?_
    refine va rfl rfl rfl (q_xor rfl rfl rfl) ?_
    refine va rfl rfl rfl (q_mul rfl rfl rfl) ?_
    refine va rfl rfl rfl (q_assign (v := .int .u64 (wu64 ((ixor .u64 h_1 (ishr .u64 h_1 33)) * 18397679294719823053))) rfl (by kernel_rfl)) ?_
    refine WR.nil ?_
    change WC _ _ _ _ _ _
    refine WC.rs ?_
    refine va rfl rfl rfl (q_move (v := .int .u64 (wu64 ((ixor .u64 h_1 (ishr .u64 h_1 33)) * 18397679294719823053))) rfl (by kernel_rfl)) ?_
    refine va rfl rfl rfl (q_move (v := .int .u64 (wu64 ((ixor .u64 h_1 (ishr .u64 h_1 33)) * 18397679294719823053))) rfl (by kernel_rfl)) ?_
    refine va rfl rfl rfl (q_shr rfl rfl rfl (by decide)) ?_
    refine va rfl rfl rfl (q_xor rfl rfl rfl) ?_
    refine va rfl rfl rfl (q_assign (v := .int .u64 (ixor .u64 (wu64 ((ixor .u64 h_1 (ishr .u64 h_1 33)) * 18397679294719823053)) (ishr .u64 (wu64 ((ixor .u64 h_1 (ishr .u64 h_1 33)) * 18397679294719823053)) 33))) rfl (by kernel_rfl)) ?_
    refine WR.nil ?_
    change WC _ _ _ _ _ _
    refine WC.ret ?_
    intro w hw
    obtain rfl := Option.some.inj h
    subst hF
    exact ⟨by kernel_rfl, hw.fr⟩
set_option maxRecDepth 100000 in
set_option maxHeartbeats 400000 in
theorem t_cmp_isNaN_uint64 {Γ : Gh} {w0 : World} (x_ : Int) (hx_ : U64 x_) (hs : Sat Γ w0) {r : Bool} (h : m_cmp_isNaN_uint64 x_ = some r) : Calls Try.prog 42 #[.int .u64 x_] w0 (fun e w' => e = .returned (.bool r) ∧ Fr no w0 w') := by
  refine calls_of (N := 6) (rs := [2]) (args := [.int .u64 x_]) Try.func42 rfl Try.ntmps42 Try.results42 rfl ?_
  obtain ⟨F, hF⟩ : ∃ F : Fm, F = ⟨no, w0, Γ⟩ := ⟨_, rfl⟩
  refine WC.here (C := CC F Γ []) ?_ (hF ▸ Cur.start0 hs)
  refine WC.rs ?_
  refine va rfl rfl rfl (q_assign (v := .bool false) rfl (by kernel_rfl)) ?_
  refine WR.nil ?_
  change WC _ _ _ _ _ _
  refine WC.rs ?_
  refine va rfl rfl rfl (q_move (v := .int .u64 x_) rfl (by kernel_rfl)) ?_
  refine va rfl rfl rfl (q_move (v := .int .u64 x_) rfl (by kernel_rfl)) ?_
  refine va rfl rfl rfl (q_neq rfl rfl rfl) ?_
  refine va rfl rfl rfl (q_assign (v := .bool (x_ != x_)) rfl (by kernel_rfl)) ?_
  refine WR.nil ?_
  change WC _ _ _ _ _ _
  refine WC.ret ?_
  intro w hw
  obtain rfl := Option.some.inj h
  subst hF
  exact ⟨by kernel_rfl, hw.fr⟩
set_option maxRecDepth 100000 in
set_option maxHeartbeats 400000 in
theorem t_cmp_Compare_uint64 {Γ : Gh} {w0 : World} (x_ : Int) (hx_ : U64 x_) (y : Int) (hy : U64 y) (hs : Sat Γ w0) {r : Int} (h : m_cmp_Compare_uint64 x_ y = some r) : Calls Try.prog 34 #[.int .u64 x_, .int .u64 y] w0 (fun e w' => e = .returned (.int .i64 r) ∧ Fr no w0 w') := by
  refine calls_of (N := 20) (rs := [4]) (args := [.int .u64 x_, .int .u64 y]) Try.func34 rfl Try.ntmps34 Try.results34 rfl ?_
  obtain ⟨F, hF⟩ : ∃ F : Fm, F = ⟨no, w0, Γ⟩ := ⟨_, rfl⟩
  refine WC.here (C := CC F Γ []) ?_ (hF ▸ Cur.start0 hs)
  refine WC.rs ?_
  refine va rfl rfl rfl (q_assign (v := .int .i64 0) rfl (by kernel_rfl)) ?_
  refine WR.nil ?_
  change WC _ _ _ _ _ _
  refine WC.rs ?_
  refine va rfl rfl rfl (q_move (v := .int .u64 x_) rfl (by kernel_rfl)) ?_
  obtain ⟨z1, hz2, h⟩ := bnd h
  refine vc rfl rfl rfl (q_call (call_run Try.call42 rfl rfl (by kernel_rfl)) (fun w hw => t_cmp_isNaN_uint64 (Γ := Gh.all w) x_ hx_ (Sat.all w) hz2)) ?_
  refine va rfl rfl rfl (q_assign (v := .bool z1) rfl (by kernel_rfl)) ?_
  refine WR.nil ?_
  change WC _ _ _ _ _ _
  refine WC.rs ?_
  refine va rfl rfl rfl (q_move (v := .int .u64 y) rfl (by kernel_rfl)) ?_
  obtain ⟨z3, hz4, h⟩ := bnd h
  refine vc rfl rfl rfl (q_call (call_run Try.call42 rfl rfl (by kernel_rfl)) (fun w hw => t_cmp_isNaN_uint64 (Γ := Gh.all w) y hy (Sat.all w) hz4)) ?_
  refine va rfl rfl rfl (q_assign (v := .bool z3) rfl (by kernel_rfl)) ?_
  refine WR.nil ?_
  change WC _ _ _ _ _ _
  refine WC.seq ?_
  refine WC.rs ?_
  refine va rfl rfl rfl (q_move (v := .bool z1) rfl (by kernel_rfl)) ?_
  refine WR.nil ?_
  change WC _ _ _ _ _ _
  refine WC.cif h (by kernel_rfl) (fun hb5 h => ?_) (fun hb5 h => ?_)
  · skip
    refine WC.seq ?_
    refine WC.rs ?_
    refine va rfl rfl rfl (q_move (v := .bool z3) rfl (by kernel_rfl)) ?_
    refine WR.nil ?_
    change WC _ _ _ _ _ _
    refine WC.cif h (by kernel_rfl) (fun hb6 h => ?_) (fun hb6 h => ?_)
    · skip
      refine WC.rs ?_
      refine va rfl rfl rfl (q_assign (v := .int .i64 0) rfl (by kernel_rfl)) ?_
      refine WR.nil ?_
      change WC _ _ _ _ _ _
      refine WC.ret ?_
      intro w hw
      obtain rfl := Option.some.inj h
      subst hF
      exact ⟨by kernel_rfl, hw.fr⟩
    · skip
      refine WC.skip ?_
      change WC _ _ _ _ _ _
      refine WC.rs ?_
      refine va rfl rfl rfl (q_assign (v := .int .i64 (-1)) rfl (by kernel_rfl)) ?_
      refine WR.nil ?_
      change WC _ _ _ _ _ _
      refine WC.ret ?_
      intro w hw
      obtain rfl := Option.some.inj h
      subst hF
      exact ⟨by kernel_rfl, hw.fr⟩
  · skip
    refine WC.skip ?_
    change WC _ _ _ _ _ _
    refine WC.seq ?_
    refine WC.rs ?_
    refine va rfl rfl rfl (q_move (v := .bool z3) rfl (by kernel_rfl)) ?_
    refine WR.nil ?_
    change WC _ _ _ _ _ _
    refine WC.cif h (by kernel_rfl) (fun hb7 h => ?_) (fun hb7 h => ?_)
    · skip
      refine WC.rs ?_
      refine va rfl rfl rfl (q_assign (v := .int .i64 1) rfl (by kernel_rfl)) ?_
      refine WR.nil ?_
      change WC _ _ _ _ _ _
      refine WC.ret ?_
      intro w hw
      obtain rfl := Option.some.inj h
      subst hF
      exact ⟨by kernel_rfl, hw.fr⟩
    · skip
      refine WC.skip ?_
      change WC _ _ _ _ _ _
      refine WC.seq ?_
      refine WC.rs ?_
      refine va rfl rfl rfl (q_move (v := .int .u64 x_) rfl (by kernel_rfl)) ?_
      refine va rfl rfl rfl (q_move (v := .int .u64 y) rfl (by kernel_rfl)) ?_
      refine va rfl rfl rfl (q_lss rfl rfl rfl) ?_
      refine WR.nil ?_
      change WC _ _ _ _ _ _
      refine WC.cif h (by kernel_rfl) (fun hb8 h => ?_) (fun hb8 h => ?_)
      · skip
        refine WC.rs ?_
        refine va rfl rfl rfl (q_assign (v := .int .i64 (-1)) rfl (by kernel_rfl)) ?_
        refine WR.nil ?_
        change WC _ _ _ _ _ _
        refine WC.ret ?_
        intro w hw
        obtain rfl := Option.some.inj h
        subst hF
        exact ⟨by kernel_rfl, hw.fr⟩
      · skip
        refine WC.skip ?_
        change WC _ _ _ _ _ _
        refine WC.seq ?_
        refine WC.rs ?_
        refine va rfl rfl rfl (q_move (v := .int .u64 x_) rfl (by kernel_rfl)) ?_
        refine va rfl rfl rfl (q_move (v := .int .u64 y) rfl (by kernel_rfl)) ?_
        refine va rfl rfl rfl (q_gtr rfl rfl rfl) ?_
        refine WR.nil ?_
        change WC _ _ _ _ _ _
        refine WC.cif h (by kernel_rfl) (fun hb9 h => ?_) (fun hb9 h => ?_)
        · skip
          refine WC.rs ?_
          refine va rfl rfl rfl (q_assign (v := .int .i64 1) rfl (by kernel_rfl)) ?_
          refine WR.nil ?_
          change WC _ _ _ _ _ _
          refine WC.ret ?_
          intro w hw
          obtain rfl := Option.some.inj h
          subst hF
          exact ⟨by kernel_rfl, hw.fr⟩
        · skip
          refine WC.skip ?_
          change WC _ _ _ _ _ _
          refine WC.rs ?_
          refine va rfl rfl rfl (q_assign (v := .int .i64 0) rfl (by kernel_rfl)) ?_
          refine WR.nil ?_
          change WC _ _ _ _ _ _
          refine WC.ret ?_
          intro w hw
          obtain rfl := Option.some.inj h
          subst hF
          exact ⟨by kernel_rfl, hw.fr⟩
set_option maxRecDepth 100000 in
set_option maxHeartbeats 400000 in
theorem t_cmp_isNaN_int {Γ : Gh} {w0 : World} (x_ : Int) (hx_ : I64 x_) (hs : Sat Γ w0) {r : Bool} (h : m_cmp_isNaN_int x_ = some r) : Calls Try.prog 43 #[.int .i64 x_] w0 (fun e w' => e = .returned (.bool r) ∧ Fr no w0 w') := by
  refine calls_of (N := 6) (rs := [2]) (args := [.int .i64 x_]) Try.func43 rfl Try.ntmps43 Try.results43 rfl ?_
  obtain ⟨F, hF⟩ : ∃ F : Fm, F = ⟨no, w0, Γ⟩ := ⟨_, rfl⟩
  refine WC.here (C := CC F Γ []) ?_ (hF ▸ Cur.start0 hs)
  refine WC.rs ?_
  refine va rfl rfl rfl (q_assign (v := .bool false) rfl (by kernel_rfl)) ?_
  refine WR.nil ?_
  change WC _ _ _ _ _ _
  refine WC.rs ?_
  refine va rfl rfl rfl (q_move (v := .int .i64 x_) rfl (by kernel_rfl)) ?_
  refine va rfl rfl rfl (q_move (v := .int .i64 x_) rfl (by kernel_rfl)) ?_
  refine va rfl rfl rfl (q_neq rfl rfl rfl) ?_
  refine va rfl rfl rfl (q_assign (v := .bool (x_ != x_)) rfl (by kernel_rfl)) ?_
  refine WR.nil ?_
  change WC _ _ _ _ _ _
  refine WC.ret ?_
  intro w hw
  obtain rfl := Option.some.inj h
  subst hF
  exact ⟨by kernel_rfl, hw.fr⟩
set_option maxRecDepth 100000 in
set_option maxHeartbeats 400000 in
theorem t_cmp_Compare_int {Γ : Gh} {w0 : World} (x_ : Int) (hx_ : I64 x_) (y : Int) (hy : I64 y) (hs : Sat Γ w0) {r : Int} (h : m_cmp_Compare_int x_ y = some r) : Calls Try.prog 35 #[.int .i64 x_, .int .i64 y] w0 (fun e w' => e = .returned (.int .i64 r) ∧ Fr no w0 w') := by
  refine calls_of (N := 20) (rs := [4]) (args := [.int .i64 x_, .int .i64 y]) Try.func35 rfl Try.ntmps35 Try.results35 rfl ?_
  obtain ⟨F, hF⟩ : ∃ F : Fm, F = ⟨no, w0, Γ⟩ := ⟨_, rfl⟩
  refine WC.here (C := CC F Γ []) ?_ (hF ▸ Cur.start0 hs)
  refine WC.rs ?_
  refine va rfl rfl rfl (q_assign (v := .int .i64 0) rfl (by kernel_rfl)) ?_
  refine WR.nil ?_
  change WC _ _ _ _ _ _
  refine WC.rs ?_
  refine va rfl rfl rfl (q_move (v := .int .i64 x_) rfl (by kernel_rfl)) ?_
  obtain ⟨z1, hz2, h⟩ := bnd h
  refine vc rfl rfl rfl (q_call (call_run Try.call43 rfl rfl (by kernel_rfl)) (fun w hw => t_cmp_isNaN_int (Γ := Gh.all w) x_ hx_ (Sat.all w) hz2)) ?_
  refine va rfl rfl rfl (q_assign (v := .bool z1) rfl (by kernel_rfl)) ?_
  refine WR.nil ?_
  change WC _ _ _ _ _ _
  refine WC.rs ?_
  refine va rfl rfl rfl (q_move (v := .int .i64 y) rfl (by kernel_rfl)) ?_
  obtain ⟨z3, hz4, h⟩ := bnd h
  refine vc rfl rfl rfl (q_call (call_run Try.call43 rfl rfl (by kernel_rfl)) (fun w hw => t_cmp_isNaN_int (Γ := Gh.all w) y hy (Sat.all w) hz4)) ?_
  refine va rfl rfl rfl (q_assign (v := .bool z3) rfl (by kernel_rfl)) ?_
  refine WR.nil ?_
  change WC _ _ _ _ _ _
  refine WC.seq ?_
  refine WC.rs ?_
  refine va rfl rfl rfl (q_move (v := .bool z1) rfl (by kernel_rfl)) ?_
  refine WR.nil ?_
  change WC _ _ _ _ _ _
  refine WC.cif h (by kernel_rfl) (fun hb5 h => ?_) (fun hb5 h => ?_)
  · skip
    refine WC.seq ?_
    refine WC.rs ?_
    refine va rfl rfl rfl (q_move (v := .bool z3) rfl (by kernel_rfl)) ?_
    refine WR.nil ?_
    change WC _ _ _ _ _ _
    refine WC.cif h (by kernel_rfl) (fun hb6 h => ?_) (fun hb6 h => ?_)
    · skip
      refine WC.rs ?_
      refine va rfl rfl rfl (q_assign (v := .int .i64 0) rfl (by kernel_rfl)) ?_
      refine WR.nil ?_
      change WC _ _ _ _ _ _
      refine WC.ret ?_
      intro w hw
      obtain rfl := Option.some.inj h
      subst hF
      exact ⟨by kernel_rfl, hw.fr⟩
    · skip
      refine WC.skip ?_
      change WC _ _ _ _ _ _
      refine WC.rs ?_
      refine va rfl rfl rfl (q_assign (v := .int .i64 (-1)) rfl (by kernel_rfl)) ?_
      refine WR.nil ?_
      change WC _ _ _ _ _ _
      refine WC.ret ?_
      intro w hw
      obtain rfl := Option.some.inj h
      subst hF
      exact ⟨by kernel_rfl, hw.fr⟩
  · skip
    refine WC.skip ?_
    change WC _ _ _ _ _ _
    refine WC.seq ?_
    refine WC.rs ?_
    refine va rfl rfl rfl (q_move (v := .bool z3) rfl (by kernel_rfl)) ?_
    refine WR.nil ?_
    change WC _ _ _ _ _ _
    refine WC.cif h (by kernel_rfl) (fun hb7 h => ?_) (fun hb7 h => ?_)
    · skip
      refine WC.rs ?_
      refine va rfl rfl rfl (q_assign (v := .int .i64 1) rfl (by kernel_rfl)) ?_
      refine WR.nil ?_
      change WC _ _ _ _ _ _
      refine WC.ret ?_
      intro w hw
      obtain rfl := Option.some.inj h
      subst hF
      exact ⟨by kernel_rfl, hw.fr⟩
    · skip
      refine WC.skip ?_
      change WC _ _ _ _ _ _
      refine WC.seq ?_
      refine WC.rs ?_
      refine va rfl rfl rfl (q_move (v := .int .i64 x_) rfl (by kernel_rfl)) ?_
      refine va rfl rfl rfl (q_move (v := .int .i64 y) rfl (by kernel_rfl)) ?_
      refine va rfl rfl rfl (q_lss rfl rfl rfl) ?_
      refine WR.nil ?_
      change WC _ _ _ _ _ _
      refine WC.cif h (by kernel_rfl) (fun hb8 h => ?_) (fun hb8 h => ?_)
      · skip
        refine WC.rs ?_
        refine va rfl rfl rfl (q_assign (v := .int .i64 (-1)) rfl (by kernel_rfl)) ?_
        refine WR.nil ?_
        change WC _ _ _ _ _ _
        refine WC.ret ?_
        intro w hw
        obtain rfl := Option.some.inj h
        subst hF
        exact ⟨by kernel_rfl, hw.fr⟩
      · skip
        refine WC.skip ?_
        change WC _ _ _ _ _ _
        refine WC.seq ?_
        refine WC.rs ?_
        refine va rfl rfl rfl (q_move (v := .int .i64 x_) rfl (by kernel_rfl)) ?_
        refine va rfl rfl rfl (q_move (v := .int .i64 y) rfl (by kernel_rfl)) ?_
        refine va rfl rfl rfl (q_gtr rfl rfl rfl) ?_
        refine WR.nil ?_
        change WC _ _ _ _ _ _
        refine WC.cif h (by kernel_rfl) (fun hb9 h => ?_) (fun hb9 h => ?_)
        · skip
          refine WC.rs ?_
          refine va rfl rfl rfl (q_assign (v := .int .i64 1) rfl (by kernel_rfl)) ?_
          refine WR.nil ?_
          change WC _ _ _ _ _ _
          refine WC.ret ?_
          intro w hw
          obtain rfl := Option.some.inj h
          subst hF
          exact ⟨by kernel_rfl, hw.fr⟩
        · skip
          refine WC.skip ?_
          change WC _ _ _ _ _ _
          refine WC.rs ?_
          refine va rfl rfl rfl (q_assign (v := .int .i64 0) rfl (by kernel_rfl)) ?_
          refine WR.nil ?_
          change WC _ _ _ _ _ _
          refine WC.ret ?_
          intro w hw
          obtain rfl := Option.some.inj h
          subst hF
          exact ⟨by kernel_rfl, hw.fr⟩
set_option maxRecDepth 100000 in
set_option maxHeartbeats 400000 in
theorem t_cmp_Or_int {Γ : Gh} {w0 : World} {Avals : Option Addr} {cvals : Nat} {vals : List Int} (hvals : Sl intT Γ Avals vals) (hvalsc : vals.length ≤ cvals) (hs : Sat Γ w0) {r : Int} (h : m_cmp_Or_int vals = some r) : Calls Try.prog 33 #[.slice Avals vals.length cvals] w0 (fun e w' => e = .returned (.int .i64 r) ∧ Fr no w0 w') := by
  refine calls_of (N := 18) (rs := [2]) (args := [.slice Avals vals.length cvals]) Try.func33 rfl Try.ntmps33 Try.results33 rfl ?_
  obtain ⟨F, hF⟩ : ∃ F : Fm, F = ⟨no, w0, Γ⟩ := ⟨_, rfl⟩
  refine WC.here (C := CC F Γ []) ?_ (hF ▸ Cur.start0 hs)
  refine WC.rs ?_
  refine va rfl rfl rfl (q_assign (v := .int .i64 0) rfl (by kernel_rfl)) ?_
  refine WR.nil ?_
  change WC _ _ _ _ _ _
  refine WC.rs ?_
  refine va rfl rfl rfl (q_assign (v := .int .i64 0) rfl (by kernel_rfl)) ?_
  refine WR.nil ?_
  change WC _ _ _ _ _ _
  refine WC.seq ?_
  refine WC.rs ?_
  refine va rfl rfl rfl (q_move (v := .slice Avals vals.length cvals) rfl (by kernel_rfl)) ?_
  refine va rfl rfl rfl (q_len_slice rfl Try.underlying22 rfl) ?_
  refine va rfl rfl rfl (q_move (v := .int .i64 0) rfl (by kernel_rfl)) ?_
  refine WR.nil ?_
  change WC _ _ _ _ _ _
  refine WC.block ?_
  refine WC.forI h (fun (i2 : Nat) (s : Unit) σ w => match s with | () => slots σ [(3, .int .i64 0), (6, .slice Avals vals.length cvals), (7, .int .i64 ((vals.length : Nat) : Int)), (8, .int .i64 ((i2 : Nat) : Int))] ∧ CC F Γ [] w ∧ True) ?_ ?_
  · skip
    intro w hw
    exact ⟨(sl_ (by kernel_rfl)), hw, trivial⟩
  rintro f1 i2 ⟨⟩ σ w hi3 hlt4 hge5 ⟨hsl, hw, -⟩
  refine Wpt.slots hsl ?_
  refine WC.here (C := CC F Γ []) ?_ hw
  clear hw hsl
  refine WC.rs ?_
  refine va rfl rfl rfl (q_lss rfl rfl rfl) ?_
  refine WR.nil ?_
  change WC _ _ _ _ _ _
  refine WC.seq ?_
  refine WC.cond (b := (decide (((i2 : Nat) : Int) < ((vals.length : Nat) : Int)))) (by kernel_rfl) (fun hb6 => ?_) (fun hb6 => ?_)
  · skip
    have hl7 := ilt hb6
    have h := hlt4 hl7
    refine WC.skip ?_
    change WC _ _ _ _ _ _
    refine WC.seq ?_
    refine WC.block ?_
    refine WC.rs ?_
    refine va rfl rfl rfl (q_ixn (i := i2) Try.underlying22 Try.sizeOf3 rfl rfl rfl hl7 (hvals.some_ hl7)) ?_
    refine va rfl rfl rfl (q_ld (c := 0) (v := .int .i64 (gt vals i2)) (hvals.intT_at hl7).2 rfl Try.isAgg3 rfl rfl) ?_
    refine va rfl rfl rfl (q_assign (v := .int .i64 (gt vals i2)) rfl (by kernel_rfl)) ?_
    refine WR.nil ?_
    change WC _ _ _ _ _ _
    refine WC.rs ?_
    refine va rfl rfl rfl (q_move (v := .int .i64 (gt vals i2)) rfl (by kernel_rfl)) ?_
    refine va rfl rfl rfl (q_move (v := .int .i64 0) rfl (by kernel_rfl)) ?_
    refine va rfl rfl rfl (q_neq rfl rfl rfl) ?_
    refine WR.nil ?_
    change WC _ _ _ _ _ _
    refine WC.cif h (by kernel_rfl) (fun hb8 h => ?_) (fun hb8 h => ?_)
    · skip
      refine WC.rs ?_
      refine va rfl rfl rfl (q_move (v := .int .i64 (gt vals i2)) rfl (by kernel_rfl)) ?_
      refine va rfl rfl rfl (q_assign (v := .int .i64 (gt vals i2)) rfl (by kernel_rfl)) ?_
      refine WR.nil ?_
      change WC _ _ _ _ _ _
      refine WC.ret ?_
      intro w hw
      obtain rfl := Option.some.inj h
      subst hF
      exact ⟨by kernel_rfl, hw.fr⟩
    · skip
      refine WC.skip ?_
      change WC _ _ _ _ _ _
      refine WC.region ?_
      refine va rfl rfl rfl (q_add_r (r := ((i2 + 1 : Nat) : Int)) rfl rfl rfl (ctr_len hl7 hvals.le)) ?_
      refine va rfl rfl rfl (q_move (v := .int .i64 ((i2 + 1 : Nat) : Int)) rfl (by kernel_rfl)) ?_
      refine WR.nil ?_
      intro w hw
      exact ⟨hl7, (), h, (sl_ (by kernel_rfl)), hw, trivial⟩
  · skip
    have h := hge5 (ige hb6)
    refine WC.exit ?_
    change WC _ _ _ _ _ _
    refine WC.rs ?_
    refine va rfl rfl rfl (q_move (v := .int .i64 0) rfl (by kernel_rfl)) ?_
    refine va rfl rfl rfl (q_assign (v := .int .i64 0) rfl (by kernel_rfl)) ?_
    refine WR.nil ?_
    change WC _ _ _ _ _ _
    refine WC.ret ?_
    intro w hw
    obtain rfl := Option.some.inj h
    subst hF
    exact ⟨by kernel_rfl, hw.fr⟩
set_option maxRecDepth 100000 in
set_option maxHeartbeats 400000 in
theorem t_ring_order_1 {Γ : Gh} {w0 : World} (a : Dring_point) (ha : Dring_point.fits Γ  a) (b : Dring_point) (hb : Dring_point.fits Γ  b) (hs : Sat Γ w0) {r : Int} (h : m_ring_order_1 a b = some r) : Calls Try.prog 32 #[.agg #[.int .u64 a.at_, .int .i64 a.node], .agg #[.int .u64 b.at_, .int .i64 b.node]] w0 (fun e w' => e = .returned (.int .i64 r) ∧ Fr no w0 w') := by
  refine calls_of (N := 17) (rs := [4]) (args := [.agg #[.int .u64 a.at_, .int .i64 a.node], .agg #[.int .u64 b.at_, .int .i64 b.node]]) Try.func32 rfl Try.ntmps32 Try.results32 rfl ?_
  obtain ⟨F, hF⟩ : ∃ F : Fm, F = ⟨no, w0, Γ⟩ := ⟨_, rfl⟩
  refine WC.here (C := CC F Γ []) ?_ (hF ▸ Cur.start0 hs)
  refine WC.rs ?_
  refine e_box (v := .agg #[.int .u64 a.at_, .int .i64 a.node]) rfl rfl rfl rfl (by kernel_rfl) ?_
  intro g1
  refine e_box (v := .agg #[.int .u64 b.at_, .int .i64 b.node]) rfl rfl rfl rfl (by kernel_rfl) ?_
  intro g2
  refine va rfl rfl rfl (q_assign (v := .int .i64 0) rfl (by kernel_rfl)) ?_
  refine WR.nil ?_
  change WC _ _ _ _ _ _
  refine WC.seq ?_
  intro w hw; have h03 := hw.le
  refine WC.here (C := CC F Γ [[(g2, .cells #[.int .u64 b.at_, .int .i64 b.node] 45 (0, 0))], [(g1, .cells #[.int .u64 a.at_, .int .i64 a.node] 45 (0, 0))]]) ?_ hw; clear hw
  refine WC.held (CC F Γ [[(g2, .cells #[.int .u64 b.at_, .int .i64 b.node] 45 (0, 0))], [(g1, .cells #[.int .u64 a.at_, .int .i64 a.node] 45 (0, 0))]]) (by kernel_rfl) (fun w hw => hw.drawn _) ?_
  change WH _ _ _ _ (CC F Γ [[(g2, .cells #[.int .u64 b.at_, .int .i64 b.node] 45 (0, 0))], [(g1, .cells #[.int .u64 a.at_, .int .i64 a.node] 45 (0, 0))]]) _ 13 #[false, false, false, false, false, false, false, false, false, false, false, false, false] _
  refine ht (i := 0) rfl (by kernel_rfl) rfl rfl rfl (fun w hw => hw.back (Gh.refl _) h03 (.cons_cons _ (.cons_cons _ .slnil))) (q_fl 0 fld_45_0 rfl rfl rfl) ?_
  refine ht (i := 1) rfl (by kernel_rfl) rfl rfl rfl (fun w hw => hw.back (Gh.refl _) h03 (.cons_cons _ (.cons_cons _ .slnil))) (q_ldl (i := 1) (v := .int .u64 a.at_) rfl rfl Try.isAgg39 rfl rfl) ?_
  refine ht (i := 2) rfl (by kernel_rfl) rfl rfl rfl (fun w hw => hw.back (Gh.refl _) h03 (.cons_cons _ (.cons_cons _ .slnil))) (q_fl 0 fld_45_0 rfl rfl rfl) ?_
  refine ht (i := 3) rfl (by kernel_rfl) rfl rfl rfl (fun w hw => hw.back (Gh.refl _) h03 (.cons_cons _ (.cons_cons _ .slnil))) (q_ldl (i := 0) (v := .int .u64 b.at_) rfl rfl Try.isAgg39 rfl rfl) ?_
  refine ht (i := 5) rfl (by kernel_rfl) rfl rfl rfl (fun w hw => hw.back (Gh.refl _) h03 (.cons_cons _ (.cons_cons _ .slnil))) (q_fl 1 fld_45_1 rfl rfl rfl) ?_
  refine ht (i := 6) rfl (by kernel_rfl) rfl rfl rfl (fun w hw => hw.back (Gh.refl _) h03 (.cons_cons _ (.cons_cons _ .slnil))) (q_ldl (i := 1) (v := .int .i64 a.node) rfl rfl Try.isAgg3 rfl rfl) ?_
  refine ht (i := 7) rfl (by kernel_rfl) rfl rfl rfl (fun w hw => hw.back (Gh.refl _) h03 (.cons_cons _ (.cons_cons _ .slnil))) (q_fl 1 fld_45_1 rfl rfl rfl) ?_
  refine ht (i := 8) rfl (by kernel_rfl) rfl rfl rfl (fun w hw => hw.back (Gh.refl _) h03 (.cons_cons _ (.cons_cons _ .slnil))) (q_ldl (i := 0) (v := .int .i64 b.node) rfl rfl Try.isAgg3 rfl rfl) ?_
  refine WH.lone (i := 4) (by kernel_rfl) rfl ?_
  obtain ⟨z4, hz5, h⟩ := bnd h
  refine vc rfl rfl rfl (q_call (call_run Try.call34 rfl rfl (by kernel_rfl)) (fun w hw => t_cmp_Compare_uint64 (Γ := Gh.all w) a.at_ ha.1 b.at_ hb.1 (Sat.all w) hz5)) ?_
  refine WR.nil ?_
  refine WH.next (fun w hw => hw.back (Gh.refl _) h03 (.cons_cons _ (.cons_cons _ .slnil))) ?_
  refine WH.lone (i := 9) (by kernel_rfl) rfl ?_
  obtain ⟨z6, hz7, h⟩ := bnd h
  refine vc rfl rfl rfl (q_call (call_run Try.call35 rfl rfl (by kernel_rfl)) (fun w hw => t_cmp_Compare_int (Γ := Gh.all w) a.node ha.2 b.node hb.2 (Sat.all w) hz7)) ?_
  refine WR.nil ?_
  refine WH.next (fun w hw => hw.back (Gh.refl _) h03 (.cons_cons _ (.cons_cons _ .slnil))) ?_
  refine WH.lone (i := 10) (by kernel_rfl) rfl ?_
  refine e_buildSlice (cs := #[.int .i64 z4, .int .i64 z6]) (e := 3) rfl rfl rfl rfl (fun w => by kernel_rfl) ?_
  intro g8
  refine WR.nil ?_
  refine WH.next (fun w hw => hw.back (Gh.refl _) h03 (.cons _ (.cons_cons _ (.cons_cons _ .slnil)))) ?_
  refine WH.lone (i := 11) (by kernel_rfl) rfl ?_
  obtain ⟨hk9, h⟩ := chk_some h
  obtain ⟨hk10, h⟩ := chk_some h
  have ho11 : Own intT Γ 3 [(g8, .cells #[.int .i64 z4, .int .i64 z6] 3 (0, 0))] (some ⟨g8, 0, none⟩) 2 [z4, z6] := Own.of_block (T := intT) (ys := [z4, z6]) [[.int .i64 z4], [.int .i64 z6]] rfl rfl (show 2 ≤ lim by decide) (fun i h => match i, h with | 0, _ => (show Ty.rd intT Γ [.int .i64 z4] z4 from ⟨rfl, (i64b_of hk9)⟩) | 1, _ => (show Ty.rd intT Γ [.int .i64 z6] z6 from ⟨rfl, (i64b_of hk10)⟩))
  obtain ⟨z12, hz13, h⟩ := bnd h
  refine vc rfl rfl rfl (q_call (call_run Try.call33 rfl rfl (by kernel_rfl)) (fun w hw => t_cmp_Or_int (Γ := Gh.all w) (ho11.sl hw.sat.le_all (hw.ra 0 rfl)) ho11.capz (Sat.all w) hz13)) ?_
  refine WR.nil ?_
  refine WH.next (fun w hw => hw.back (Gh.refl _) h03 (.cons _ (.cons_cons _ (.cons_cons _ .slnil)))) ?_
  refine ht (i := 12) rfl (by kernel_rfl) rfl rfl rfl (fun w hw => hw.back (Gh.refl _) h03 (.cons _ (.cons_cons _ (.cons_cons _ .slnil)))) (q_assign (v := .int .i64 z12) rfl (by kernel_rfl)) ?_
  refine WH.done (by kernel_rfl) ?_
  change WC _ _ _ _ _ _
  refine WC.ret ?_
  intro w hw
  obtain rfl := Option.some.inj h
  subst hF
  exact ⟨by kernel_rfl, hw.fr⟩
set_option maxRecDepth 100000 in
set_option maxHeartbeats 400000 in
theorem t_ring_order_2 {Γ : Gh} {w0 : World} (p : Dring_point) (hp : Dring_point.fits Γ  p) (h_ : Int) (hh_ : U64 h_) (hs : Sat Γ w0) {r : Int} (h : m_ring_order_2 p h_ = some r) : Calls Try.prog 37 #[.agg #[.int .u64 p.at_, .int .i64 p.node], .int .u64 h_] w0 (fun e w' => e = .returned (.int .i64 r) ∧ Fr no w0 w') := by
  refine calls_of (N := 9) (rs := [4]) (args := [.agg #[.int .u64 p.at_, .int .i64 p.node], .int .u64 h_]) Try.func37 rfl Try.ntmps37 Try.results37 rfl ?_
  obtain ⟨F, hF⟩ : ∃ F : Fm, F = ⟨no, w0, Γ⟩ := ⟨_, rfl⟩
  refine WC.here (C := CC F Γ []) ?_ (hF ▸ Cur.start0 hs)
  refine WC.rs ?_
  refine e_box (v := .agg #[.int .u64 p.at_, .int .i64 p.node]) rfl rfl rfl rfl (by kernel_rfl) ?_
  intro g1
  refine va rfl rfl rfl (q_assign (v := .int .i64 0) rfl (by kernel_rfl)) ?_
  refine WR.nil ?_
  change WC _ _ _ _ _ _
  refine WC.rs ?_
  refine va rfl rfl rfl (q_fl 0 fld_45_0 rfl rfl rfl) ?_
  refine va rfl rfl rfl (q_ldl (i := 0) (v := .int .u64 p.at_) rfl rfl Try.isAgg39 rfl rfl) ?_
  refine va rfl rfl rfl (q_move (v := .int .u64 h_) rfl (by kernel_rfl)) ?_
  obtain ⟨z2, hz3, h⟩ := bnd h
  refine vc rfl rfl rfl (q_call (call_run Try.call34 rfl rfl (by kernel_rfl)) (fun w hw => t_cmp_Compare_uint64 (Γ := Gh.all w) p.at_ hp.1 h_ hh_ (Sat.all w) hz3)) ?_
  refine va rfl rfl rfl (q_assign (v := .int .i64 z2) rfl (by kernel_rfl)) ?_
  refine WR.nil ?_
  change WC _ _ _ _ _ _
  refine WC.ret ?_
  intro w hw
  obtain rfl := Option.some.inj h
  subst hF
  exact ⟨by kernel_rfl, hw.fr⟩
set_option maxRecDepth 100000 in
set_option maxHeartbeats 400000 in
theorem t_slices_BinarySearchFunc_ring_point_ring_point_uint64 {Γ : Gh} {w0 : World} {Ax_ : Option Addr} {cx_ : Nat} {x_ : List Dring_point} (hx_ : Sl dring_pointT Γ Ax_ x_) (hx_c : x_.length ≤ cx_) (target : Int) (htarget : U64 target) (hs : Sat Γ w0) {r : Int × Bool} (h : m_slices_BinarySearchFunc_ring_point_ring_point_uint64 x_ target = some r) : Calls Try.prog 36 #[.slice Ax_ x_.length cx_, .int .u64 target, .func (.func 37) #[] #[]] w0 (fun e w' => e = .returned (.tuple #[.int .i64 r.1, .bool r.2]) ∧ Fr no w0 w') := by
  refine calls_of (N := 49) (rs := [6, 7]) (args := [.slice Ax_ x_.length cx_, .int .u64 target, .func (.func 37) #[] #[]]) Try.func36 rfl Try.ntmps36 Try.results36 rfl ?_
  obtain ⟨F, hF⟩ : ∃ F : Fm, F = ⟨no, w0, Γ⟩ := ⟨_, rfl⟩
  refine WC.here (C := CC F Γ []) ?_ (hF ▸ Cur.start0 hs)
  refine WC.rs ?_
  refine va rfl rfl rfl (q_assign (v := .int .i64 0) rfl (by kernel_rfl)) ?_
  refine va rfl rfl rfl (q_assign (v := .bool false) rfl (by kernel_rfl)) ?_
  refine WR.nil ?_
  change WC _ _ _ _ _ _
  refine WC.rs ?_
  refine va rfl rfl rfl (q_move (v := .slice Ax_ x_.length cx_) rfl (by kernel_rfl)) ?_
  refine va rfl rfl rfl (q_len_slice rfl Try.underlying43 rfl) ?_
  refine va rfl rfl rfl (q_assign (v := .int .i64 ((x_.length : Nat) : Int)) rfl (by kernel_rfl)) ?_
  refine WR.nil ?_
  change WC _ _ _ _ _ _
  refine WC.rs ?_
  refine va rfl rfl rfl (q_move (v := .int .i64 ((x_.length : Nat) : Int)) rfl (by kernel_rfl)) ?_
  refine va rfl rfl rfl (q_assign (v := .int .i64 0) rfl (by kernel_rfl)) ?_
  refine va rfl rfl rfl (q_assign (v := .int .i64 ((x_.length : Nat) : Int)) rfl (by kernel_rfl)) ?_
  refine WR.nil ?_
  change WC _ _ _ _ _ _
  refine WC.seq ?_
  refine WC.block ?_
  refine WC.loopN h (fun (s : Int × Int) σ w => match s with | (i_1, j_3) => slots σ [(0, .slice Ax_ x_.length cx_), (1, .int .u64 target), (2, .func (.func 37) #[] #[]), (8, .int .i64 ((x_.length : Nat) : Int)), (9, .int .i64 i_1), (10, .int .i64 j_3)] ∧ CC F Γ [] w ∧ I64 i_1 ∧ I64 j_3 ∧ True) ?_ ?_
  · skip
    intro w hw
    exact ⟨(sl_ (by kernel_rfl)), hw, (show I64 0 by decide), (len_r hx_.le), trivial⟩
  rintro f5 ⟨i_1, j_3⟩ σ w h ⟨hsl, hw, hr2, hr4, -⟩
  refine Wpt.slots hsl ?_
  refine WC.here (C := CC F Γ []) ?_ hw
  clear hw hsl
  refine WC.seq ?_
  refine WC.rs ?_
  refine va rfl rfl rfl (q_move (v := .int .i64 i_1) rfl (by kernel_rfl)) ?_
  refine va rfl rfl rfl (q_move (v := .int .i64 j_3) rfl (by kernel_rfl)) ?_
  refine va rfl rfl rfl (q_lss rfl rfl rfl) ?_
  refine WR.nil ?_
  change WC _ _ _ _ _ _
  refine WC.cif h (by kernel_rfl) (fun hb9 h => ?_) (fun hb9 h => ?_)
  · skip
    refine WC.skip ?_
    change WC _ _ _ _ _ _
    refine WC.block ?_
    refine WC.rs ?_
    refine va rfl rfl rfl (q_move (v := .int .i64 i_1) rfl (by kernel_rfl)) ?_
    refine va rfl rfl rfl (q_move (v := .int .i64 j_3) rfl (by kernel_rfl)) ?_
    refine va rfl rfl rfl (q_add rfl rfl rfl) ?_
    refine va rfl rfl rfl (q_conv Try.underlying55 Try.underlying3 rfl rfl) ?_
    refine va rfl rfl rfl (q_shr rfl rfl rfl (by decide)) ?_
    refine va rfl rfl rfl (q_conv Try.underlying3 Try.underlying55 rfl rfl) ?_
    refine va rfl rfl rfl (q_assign (v := .int .i64 (w64 (ishr .u64 (wu64 (w64 (i_1 + j_3))) 1))) rfl (by kernel_rfl)) ?_
    refine WR.nil ?_
    change WC _ _ _ _ _ _
    refine WC.rs ?_
    refine va rfl rfl rfl (q_move (v := .func (.func 37) #[] #[]) rfl (by kernel_rfl)) ?_
    refine va rfl rfl rfl (q_move (v := .slice Ax_ x_.length cx_) rfl (by kernel_rfl)) ?_
    refine va rfl rfl rfl (q_move (v := .int .i64 (w64 (ishr .u64 (wu64 (w64 (i_1 + j_3))) 1))) rfl (by kernel_rfl)) ?_
    obtain ⟨hk10, h⟩ := chk_some h
    refine va rfl rfl rfl (q_ix Try.underlying43 Try.sizeOf45 rfl rfl rfl hk10 (hx_.some_ (inb_lt hk10))) ?_
    refine va rfl rfl rfl (q_lda (c := 0) (vs := [.int .u64 (gt x_ ((w64 (ishr .u64 (wu64 (w64 (i_1 + j_3))) 1)).toNat)).at_, .int .i64 (gt x_ ((w64 (ishr .u64 (wu64 (w64 (i_1 + j_3))) 1)).toNat)).node]) (hx_.dring_pointT_at (inb_lt hk10)).2 rfl Try.isAgg45 Try.sizeOf45 rfl rfl rfl) ?_
    refine va rfl rfl rfl (q_move (v := .int .u64 target) rfl (by kernel_rfl)) ?_
    obtain ⟨z11, hz12, h⟩ := bnd h
    refine vc rfl rfl rfl (q_call (call_run_fv (caps := #[]) Try.call37 rfl (by kernel_rfl) (by kernel_rfl)) (fun w hw => t_ring_order_2 (Γ := Gh.all w) (gt x_ ((w64 (ishr .u64 (wu64 (w64 (i_1 + j_3))) 1)).toNat)) (hx_.dring_pointT_at (inb_lt hk10)).1 target htarget (Sat.all w) hz12)) ?_
    refine va rfl rfl rfl (q_lss rfl rfl rfl) ?_
    refine WR.nil ?_
    change WC _ _ _ _ _ _
    refine WC.cif h (by kernel_rfl) (fun hb13 h => ?_) (fun hb13 h => ?_)
    · skip
      refine WC.region ?_
      refine va rfl rfl rfl (q_move (v := .int .i64 (w64 (ishr .u64 (wu64 (w64 (i_1 + j_3))) 1))) rfl (by kernel_rfl)) ?_
      refine va rfl rfl rfl (q_add rfl rfl rfl) ?_
      refine va rfl rfl rfl (q_assign (v := .int .i64 (w64 ((w64 (ishr .u64 (wu64 (w64 (i_1 + j_3))) 1)) + 1))) rfl (by kernel_rfl)) ?_
      refine WR.nil ?_
      intro w hw
      exact ⟨((w64 ((w64 (ishr .u64 (wu64 (w64 (i_1 + j_3))) 1)) + 1)), j_3), h, (sl_ (by kernel_rfl)), hw, (w64_r _), hr4, trivial⟩
    · skip
      refine WC.region ?_
      refine va rfl rfl rfl (q_move (v := .int .i64 (w64 (ishr .u64 (wu64 (w64 (i_1 + j_3))) 1))) rfl (by kernel_rfl)) ?_
      refine va rfl rfl rfl (q_assign (v := .int .i64 (w64 (ishr .u64 (wu64 (w64 (i_1 + j_3))) 1))) rfl (by kernel_rfl)) ?_
      refine WR.nil ?_
      intro w hw
      exact ⟨(i_1, (w64 (ishr .u64 (wu64 (w64 (i_1 + j_3))) 1))), h, (sl_ (by kernel_rfl)), hw, hr2, (w64_r _), trivial⟩
  · skip
    refine WC.exit ?_
    change WC _ _ _ _ _ _
    refine WC.rs ?_
    refine va rfl rfl rfl (q_move (v := .int .i64 i_1) rfl (by kernel_rfl)) ?_
    refine va rfl rfl rfl (q_move (v := .int .i64 i_1) rfl (by kernel_rfl)) ?_
    refine va rfl rfl rfl (q_move (v := .int .i64 ((x_.length : Nat) : Int)) rfl (by kernel_rfl)) ?_
    refine va rfl rfl rfl (q_lss rfl rfl rfl) ?_
    refine va rfl rfl rfl (q_move (v := .bool (decide (i_1 < ((x_.length : Nat) : Int)))) rfl (by kernel_rfl)) ?_
    refine vg1 rfl rfl rfl rfl rfl (fun hg14 => QV.qo (q_move (v := .func (.func 37) #[] #[]) rfl (by kernel_rfl))) ?_
    refine vg1 rfl rfl rfl rfl rfl (fun hg15 => QV.qo (q_move (v := .slice Ax_ x_.length cx_) rfl (by kernel_rfl))) ?_
    refine vg1 rfl rfl rfl rfl rfl (fun hg16 => QV.qo (q_move (v := .int .i64 i_1) rfl (by kernel_rfl))) ?_
    obtain ⟨hk18, h⟩ := chk_some h
    refine vg1 rfl rfl rfl rfl rfl (fun hg17 => QV.qo (q_ix Try.underlying43 Try.sizeOf45 rfl (gu hg17 rfl) (gu hg17 rfl) (imp_of hk18 hg17) (hx_.some_ (inb_lt (imp_of hk18 hg17))))) ?_
    refine vg1 rfl rfl rfl rfl rfl (fun hg19 => QV.qo (q_lda (c := 0) (vs := [.int .u64 (gt x_ i_1.toNat).at_, .int .i64 (gt x_ i_1.toNat).node]) (hx_.dring_pointT_at (inb_lt (imp_of hk18 hg19))).2 rfl Try.isAgg45 Try.sizeOf45 (gu hg19 rfl) rfl rfl)) ?_
    refine vg1 rfl rfl rfl rfl rfl (fun hg20 => QV.qo (q_move (v := .int .u64 target) rfl (by kernel_rfl))) ?_
    obtain ⟨z22, hz23, h⟩ := bnd h
    refine vg1 rfl rfl rfl rfl rfl (fun hg21 => (q_call (call_run_fv (caps := #[]) (args := #[.agg #[.int .u64 (gt x_ i_1.toNat).at_, .int .i64 (gt x_ i_1.toNat).node], .int .u64 target]) Try.call37 rfl (gu hg21 rfl) ((congrArg (· ++ #[]) (args2 (gu hg21 rfl) (gu hg21 rfl))).trans (by kernel_rfl))) (fun w hw => t_ring_order_2 (Γ := Gh.all w) (gt x_ i_1.toNat) (hx_.dring_pointT_at (inb_lt (imp_of hk18 hg21))).1 target htarget (Sat.all w) (gc_of hz23 hg21)))) ?_
    refine vg1 rfl rfl rfl rfl rfl (fun hg24 => QV.qo (q_eql rfl (gu hg24 rfl) rfl)) ?_
    refine va rfl rfl rfl (q_pick rfl rfl (pk_and' (g := (decide (i_1 < ((x_.length : Nat) : Int)))) (y := (z22 == 0)))) ?_
    refine va rfl rfl rfl (q_assign (v := .int .i64 i_1) rfl (by kernel_rfl)) ?_
    refine va rfl rfl rfl (q_assign (v := .bool ((decide (i_1 < ((x_.length : Nat) : Int))) && (z22 == 0))) rfl (by kernel_rfl)) ?_
    refine WR.nil ?_
    change WC _ _ _ _ _ _
    refine WC.ret ?_
    intro w hw
    obtain rfl := Option.some.inj h
    subst hF
    exact ⟨by kernel_rfl, hw.fr⟩
abbrev r_ring_order (r : List Int) (U : List Rowb) (Γ : Gh) (v : Value) : Prop := ∃ (A0 : Option Addr), ∃ (c0 : Nat), ∃ (row0 : Rowb), v = .slice A0 r.length c0 ∧ U = [row0] ∧ Own intT Γ 3 row0 A0 c0 r ∧ True
set_option maxRecDepth 100000 in
set_option maxHeartbeats 400000 in
theorem t_ring_order {Γ : Gh} {w0 : World} {Amembers : Option Addr} {cmembers : Nat} {members : List Int} (hmembers : Sl intT Γ Amembers members) (hmembersc : members.length ≤ cmembers) (part : Int) (hpart : I64 part) (hp : Pre [] Γ w0) {r : List Int} (h : m_ring_order members part = some r) : Calls Try.prog 22 #[.slice Amembers members.length cmembers, .int .i64 part] w0 (Outc Γ [] w0 (r_ring_order r)) := by
  refine calls_of (N := 88) (rs := [4]) (args := [.slice Amembers members.length cmembers, .int .i64 part]) Try.func22 rfl Try.ntmps22 Try.results22 rfl ?_
  obtain ⟨F, hF⟩ : ∃ F : Fm, F = ⟨ids [], w0, Γ⟩ := ⟨_, rfl⟩
  refine WC.here (C := CC F Γ []) ?_ (hF ▸ hp.start)
  refine WC.rs ?_
  refine va rfl rfl rfl (q_assign (v := .slice none 0 0) rfl (by kernel_rfl)) ?_
  refine WR.nil ?_
  change WC _ _ _ _ _ _
  refine WC.seq ?_
  refine WC.rs ?_
  refine va rfl rfl rfl (q_move (v := .slice Amembers members.length cmembers) rfl (by kernel_rfl)) ?_
  obtain ⟨z1, hz2, h⟩ := bnd h
  refine vc rfl rfl rfl (q_call (call_run Try.call15 rfl rfl (by kernel_rfl)) (fun w hw => t_ring_Right (Γ := Gh.all w) (hmembers.mono hw.sat.le_all) hmembersc (Sat.all w) hz2)) ?_
  refine va rfl rfl rfl (q_not rfl rfl) ?_
  refine va rfl rfl rfl (q_move (v := .bool (!z1)) rfl (by kernel_rfl)) ?_
  refine vg0 rfl rfl rfl rfl rfl (fun hg3 => QV.qo (q_move (v := .int .i64 part) rfl (by kernel_rfl))) ?_
  refine vg0 rfl rfl rfl rfl rfl (fun hg4 => QV.qo (q_lss rfl (gu hg4 rfl) rfl)) ?_
  refine va rfl rfl rfl (q_pick rfl rfl (pk_or' (g := (!z1)) (y := (decide (part < 0))))) ?_
  refine va rfl rfl rfl (q_move (v := .bool ((!z1) || (decide (part < 0)))) rfl (by kernel_rfl)) ?_
  refine vg0 rfl rfl rfl rfl rfl (fun hg5 => QV.qo (q_move (v := .int .i64 part) rfl (by kernel_rfl))) ?_
  refine vg0 rfl rfl rfl rfl rfl (fun hg6 => QV.qo (q_geq rfl (gu hg6 rfl) rfl)) ?_
  refine va rfl rfl rfl (q_pick rfl rfl (pk_or' (g := ((!z1) || (decide (part < 0)))) (y := (decide (8 ≤ part))))) ?_
  refine WR.nil ?_
  change WC _ _ _ _ _ _
  refine WC.cif h (by kernel_rfl) (fun hb7 h => ?_) (fun hb7 h => ?_)
  · skip
    refine WC.rs ?_
    refine va rfl rfl rfl (q_assign (v := .slice none 0 0) rfl (by kernel_rfl)) ?_
    refine WR.nil ?_
    change WC _ _ _ _ _ _
    refine WC.ret ?_
    intro w hw
    have hw := hw.pad
    obtain rfl := Option.some.inj h
    subst hF
    exact end_e (is := [0]) (by kernel_rfl) hw rfl ⟨none, 0, [], rfl, rfl, (Own.nil intT _ 3), trivial⟩
  · skip
    refine WC.skip ?_
    change WC _ _ _ _ _ _
    refine WC.rs ?_
    refine va rfl rfl rfl (q_assign (v := .slice none 0 0) rfl (by kernel_rfl)) ?_
    refine WR.nil ?_
    change WC _ _ _ _ _ _
    refine WC.seq ?_
    refine WC.rs ?_
    refine va rfl rfl rfl (q_move (v := .slice Amembers members.length cmembers) rfl (by kernel_rfl)) ?_
    refine va rfl rfl rfl (q_len_slice rfl Try.underlying22 rfl) ?_
    refine va rfl rfl rfl (q_move (v := .int .i64 0) rfl (by kernel_rfl)) ?_
    refine WR.nil ?_
    change WC _ _ _ _ _ _
    refine WC.block ?_
    refine WC.forI h (fun (i14 : Nat) (all_8 : List Dring_point) σ w => ∃ (A9 : Option Addr), ∃ (c10 : Nat), ∃ (row11 : Rowb), slots σ [(1, .int .i64 part), (5, .slice A9 all_8.length c10), (27, .slice Amembers members.length cmembers), (28, .int .i64 ((members.length : Nat) : Int)), (29, .int .i64 ((i14 : Nat) : Int))] ∧ CC F Γ [row11] w ∧ Own dring_pointT Γ 45 row11 A9 c10 all_8 ∧ True) ?_ ?_
    · skip
      intro w hw
      have hw := hw.pad
      exact ⟨none, 0, [], (sl_ (by kernel_rfl)), hw, (Own.nil dring_pointT _ 45), trivial⟩
    rintro f13 i14 all_8 σ w hi15 hlt16 hge17 ⟨A9, c10, row11, hsl, hw, ho12, -⟩
    refine Wpt.slots hsl ?_
    refine WC.here (C := CC F Γ [row11]) ?_ hw
    clear hw hsl
    refine WC.rs ?_
    refine va rfl rfl rfl (q_lss rfl rfl rfl) ?_
    refine WR.nil ?_
    change WC _ _ _ _ _ _
    refine WC.seq ?_
    refine WC.cond (b := (decide (((i14 : Nat) : Int) < ((members.length : Nat) : Int)))) (by kernel_rfl) (fun hb18 => ?_) (fun hb18 => ?_)
    · skip
      have hl19 := ilt hb18
      have h := hlt16 hl19
      refine WC.skip ?_
      change WC _ _ _ _ _ _
      refine WC.seq ?_
      refine WC.block ?_
      refine WC.rs ?_
      refine va rfl rfl rfl (q_ixn (i := i14) Try.underlying22 Try.sizeOf3 rfl rfl rfl hl19 (hmembers.some_ hl19)) ?_
      refine va rfl rfl rfl (q_ld (c := 0) (v := .int .i64 (gt members i14)) (hmembers.intT_at hl19).2 rfl Try.isAgg3 rfl rfl) ?_
      refine va rfl rfl rfl (q_assign (v := .int .i64 (gt members i14)) rfl (by kernel_rfl)) ?_
      refine WR.nil ?_
      change WC _ _ _ _ _ _
      refine WC.rs ?_
      refine va rfl rfl rfl (q_move (v := .int .i64 0) rfl (by kernel_rfl)) ?_
      refine WR.nil ?_
      change WC _ _ _ _ _ _
      refine WC.block ?_
      refine WC.forU h (fun (i26 : Nat) (all_20 : List Dring_point) σ w => ∃ (A21 : Option Addr), ∃ (c22 : Nat), ∃ (row23 : Rowb), slots σ [(1, .int .i64 part), (5, .slice A21 all_20.length c22), (7, .int .i64 (gt members i14)), (27, .slice Amembers members.length cmembers), (28, .int .i64 ((members.length : Nat) : Int)), (29, .int .i64 ((i14 : Nat) : Int)), (33, .int .i64 ((i26 : Nat) : Int))] ∧ CC F Γ [row23] w ∧ Own dring_pointT Γ 45 row23 A21 c22 all_20 ∧ True) ?_ ?_
      · skip
        intro w hw
        exact ⟨A9, c10, row11, (sl_ (by kernel_rfl)), hw, ho12, trivial⟩
      rintro f25 i26 all_20 σ w hi27 hlt28 hge29 ⟨A21, c22, row23, hsl, hw, ho24, -⟩
      refine Wpt.slots hsl ?_
      refine WC.here (C := CC F Γ [row23]) ?_ hw
      clear hw hsl
      refine WC.rs ?_
      refine va rfl rfl rfl (q_lss rfl rfl rfl) ?_
      refine WR.nil ?_
      change WC _ _ _ _ _ _
      refine WC.seq ?_
      refine WC.cond (b := (decide (((i26 : Nat) : Int) < 4))) (by kernel_rfl) (fun hb30 => ?_) (fun hb30 => ?_)
      · skip
        have hl31 := ilt hb30
        have h := hlt28 hl31
        refine WC.skip ?_
        change WC _ _ _ _ _ _
        refine WC.seq ?_
        refine WC.block ?_
        refine WC.rs ?_
        refine va rfl rfl rfl (q_move (v := .int .i64 ((i26 : Nat) : Int)) rfl (by kernel_rfl)) ?_
        refine va rfl rfl rfl (q_assign (v := .int .i64 ((i26 : Nat) : Int)) rfl (by kernel_rfl)) ?_
        refine WR.nil ?_
        change WC _ _ _ _ _ _
        refine WC.region ?_
        refine va rfl rfl rfl (q_move (v := .slice A21 all_20.length c22) rfl (by kernel_rfl)) ?_
        refine va rfl rfl rfl (q_move (v := .int .i64 (gt members i14)) rfl (by kernel_rfl)) ?_
        refine va rfl rfl rfl (q_conv Try.underlying5 Try.underlying3 rfl rfl) ?_
        refine va rfl rfl rfl (q_move (v := .int .i64 ((i26 : Nat) : Int)) rfl (by kernel_rfl)) ?_
        refine va rfl rfl rfl (q_conv Try.underlying5 Try.underlying3 rfl rfl) ?_
        refine e_buildSlice (cs := #[.int .u8 (wu8 (gt members i14)), .int .u8 (wu8 ((i26 : Nat) : Int))]) (e := 5) rfl rfl rfl rfl (fun w => by kernel_rfl) ?_
        intro g32
        have ho33 : Own byteT Γ 5 [(g32, .cells #[.int .u8 (wu8 (gt members i14)), .int .u8 (wu8 ((i26 : Nat) : Int))] 5 (0, 0))] (some ⟨g32, 0, none⟩) 2 [(b8 (wu8 (gt members i14))), (b8 (wu8 ((i26 : Nat) : Int)))] := Own.of_block (T := byteT) (ys := [(b8 (wu8 (gt members i14))), (b8 (wu8 ((i26 : Nat) : Int)))]) [[.int .u8 (wu8 (gt members i14))], [.int .u8 (wu8 ((i26 : Nat) : Int))]] rfl rfl (show 2 ≤ lim by decide) (fun i h => match i, h with | 0, _ => (show Ty.rd byteT Γ [.int .u8 (wu8 (gt members i14))] (b8 (wu8 (gt members i14))) from (by show [Value.int .u8 (wu8 (gt members i14))] = [Value.int .u8 _]; rw [b8_val (wu8_r _)])) | 1, _ => (show Ty.rd byteT Γ [.int .u8 (wu8 ((i26 : Nat) : Int))] (b8 (wu8 ((i26 : Nat) : Int))) from (by show [Value.int .u8 (wu8 ((i26 : Nat) : Int))] = [Value.int .u8 _]; rw [b8_val (wu8_r _)])))
        obtain ⟨z34, hz35, h⟩ := bnd h
        refine vc rfl rfl rfl (q_call (call_run Try.call24 rfl rfl (by kernel_rfl)) (fun w hw => t_num_Hash (Γ := Gh.all w) (ho33.sl hw.sat.le_all (hw.ra 0 rfl)) ho33.capz (Sat.all w) hz35)) ?_
        refine va rfl rfl rfl (q_move (v := .int .i64 (gt members i14)) rfl (by kernel_rfl)) ?_
        refine va rfl rfl rfl (q_build' (v := .agg #[.int .u64 z34, .int .i64 (gt members i14)]) rfl (bargs2 rfl rfl) (fun w => by kernel_rfl)) ?_
        refine e_buildSlice (cs := #[.int .u64 z34, .int .i64 (gt members i14)]) (e := 45) rfl rfl rfl rfl (fun w => by kernel_rfl) ?_
        intro g36
        obtain ⟨hk37, h⟩ := chk_some h
        obtain ⟨hk38, h⟩ := chk_some h
        refine e_append (T := dring_pointT) (xs := all_20) (ys := [(⟨z34, (gt members i14)⟩ : Dring_point)]) elem_43 (i := 2) rfl rfl rfl rfl rfl rfl rfl ho24 (of_decide_eq_true hk38) (fun w hw => src_one (T := dring_pointT) (y := (⟨z34, (gt members i14)⟩ : Dring_point)) (i := 0) rfl (by exact ⟨rfl, ⟨(u64b_of hk37), (hmembers.intT_at hl19).1⟩⟩) hw) ?_
        intro row39 A40 c41 ho42
        refine va rfl rfl rfl (q_assign (v := .slice A40 (all_20 ++ [(⟨z34, (gt members i14)⟩ : Dring_point)]).length c41) rfl (by kernel_rfl)) ?_
        refine WR.nil ?_
        change WC _ _ _ _ _ _
        refine WC.region ?_
        refine va rfl rfl rfl (q_add_r (r := ((i26 + 1 : Nat) : Int)) rfl rfl rfl (ctr_lit hl31 (by decide))) ?_
        refine va rfl rfl rfl (q_move (v := .int .i64 ((i26 + 1 : Nat) : Int)) rfl (by kernel_rfl)) ?_
        refine WR.nil ?_
        intro w hw
        exact ⟨hl31, (all_20 ++ [(⟨z34, (gt members i14)⟩ : Dring_point)]), h, A40, c41, row39, (sl_ (by kernel_rfl)), (hw.only (is := [2]) rfl), ho42, trivial⟩
      · skip
        have h := hge29 (ige hb30)
        refine WC.exit ?_
        change WC _ _ _ _ _ _
        refine WC.region ?_
        refine va rfl rfl rfl (q_add_r (r := ((i14 + 1 : Nat) : Int)) rfl rfl rfl (ctr_len hl19 hmembers.le)) ?_
        refine va rfl rfl rfl (q_move (v := .int .i64 ((i14 + 1 : Nat) : Int)) rfl (by kernel_rfl)) ?_
        refine WR.nil ?_
        intro w hw
        exact ⟨hl19, all_20, h, A21, c22, row23, (sl_ (by kernel_rfl)), hw, ho24, trivial⟩
    · skip
      have h := hge17 (ige hb18)
      refine WC.exit ?_
      change WC _ _ _ _ _ _
      refine WC.rs ?_
      refine va rfl rfl rfl (q_move (v := .slice A9 all_8.length c10) rfl (by kernel_rfl)) ?_
      obtain ⟨z43, hz44, h⟩ := bnd h
      refine e_call (is := [0]) rfl rfl (call_run Try.call31 rfl rfl (by kernel_rfl)) rfl (fun w hp => sort_own (T := dring_pointT) sort31 Try.isAgg45 Try.sizeOf45 (enters_of Try.func32 (by kernel_rfl) rfl) (fun hx hy hr => by obtain ⟨rfl, f1⟩ := hx; obtain ⟨rfl, f2⟩ := hy; exact t_ring_order_1 _ f1 _ f2 (Sat.all _) hr) ho12 hp hz44) ?_
      rintro Γ45 U47 v48 hl46 ⟨rfl, row49, rfl, ho50⟩
      have hn51 := m_sort_len hz44
      change WR _ _ _ (CC F Γ45 [row49]) _ _ (upd _ 50 (.tuple #[]))
      rw [show Value.slice A9 (all_8.length) c10 = Value.slice A9 (z43.length) c10 from by rw [hn51]]
      refine WR.nil ?_
      change WC _ _ _ _ _ _
      refine WC.rs ?_
      refine va rfl rfl rfl (q_move (v := .int .i64 part) rfl (by kernel_rfl)) ?_
      refine va rfl rfl rfl (q_conv Try.underlying5 Try.underlying3 rfl rfl) ?_
      refine e_buildSlice (cs := #[.int .u8 255, .int .u8 (wu8 part)]) (e := 5) rfl rfl rfl rfl (fun w => by kernel_rfl) ?_
      intro g52
      have ho53 : Own byteT Γ45 5 [(g52, .cells #[.int .u8 255, .int .u8 (wu8 part)] 5 (0, 0))] (some ⟨g52, 0, none⟩) 2 [(b8 255), (b8 (wu8 part))] := Own.of_block (T := byteT) (ys := [(b8 255), (b8 (wu8 part))]) [[.int .u8 255], [.int .u8 (wu8 part)]] rfl rfl (show 2 ≤ lim by decide) (fun i h => match i, h with | 0, _ => (show Ty.rd byteT Γ45 [.int .u8 255] (b8 255) from (by show [Value.int .u8 255] = [Value.int .u8 _]; rw [b8_val (by decide)])) | 1, _ => (show Ty.rd byteT Γ45 [.int .u8 (wu8 part)] (b8 (wu8 part)) from (by show [Value.int .u8 (wu8 part)] = [Value.int .u8 _]; rw [b8_val (wu8_r _)])))
      obtain ⟨z54, hz55, h⟩ := bnd h
      refine vc rfl rfl rfl (q_call (call_run Try.call24 rfl rfl (by kernel_rfl)) (fun w hw => t_num_Hash (Γ := Gh.all w) (ho53.sl hw.sat.le_all (hw.ra 0 rfl)) ho53.capz (Sat.all w) hz55)) ?_
      refine va rfl rfl rfl (q_assign (v := .int .u64 z54) rfl (by kernel_rfl)) ?_
      refine WR.nil ?_
      change WC _ _ _ _ _ _
      refine WC.rs ?_
      refine va rfl rfl rfl (q_move (v := .slice A9 z43.length c10) rfl (by kernel_rfl)) ?_
      refine va rfl rfl rfl (q_move (v := .int .u64 z54) rfl (by kernel_rfl)) ?_
      obtain ⟨hk56, h⟩ := chk_some h
      obtain ⟨z57, hz58, h⟩ := bnd h
      refine vc rfl rfl rfl (q_call (call_run Try.call36 rfl rfl (by kernel_rfl)) (fun w hw => t_slices_BinarySearchFunc_ring_point_ring_point_uint64 (Γ := Gh.all w) (ho50.sl hw.sat.le_all (hw.ra 1 rfl)) ho50.capz z54 (u64b_of hk56) (Sat.all w) hz58)) ?_
      refine va rfl rfl rfl (q_move (v := .tuple #[.int .i64 z57.1, .bool z57.2]) rfl (by kernel_rfl)) ?_
      refine va rfl rfl rfl (q_extract (v := .int .i64 z57.1) rfl rfl rfl) ?_
      refine va rfl rfl rfl (q_extract (v := .bool z57.2) rfl rfl rfl) ?_
      refine va rfl rfl rfl (q_assign (v := .int .i64 z57.1) rfl (by kernel_rfl)) ?_
      refine va rfl rfl rfl (q_assign (v := .bool z57.2) rfl (by kernel_rfl)) ?_
      refine WR.nil ?_
      change WC _ _ _ _ _ _
      refine WC.rs ?_
      refine e_alloc Try.zeroValue54 rfl rfl rfl rfl ?_
      intro g59
      have ho60 : Own boolT Γ45 54 [(g59, .cells #[.bool false, .bool false, .bool false, .bool false, .bool false, .bool false, .bool false, .bool false, .bool false] 54 (0, 0))] (some ⟨g59, 0, none⟩) 9 (List.replicate 9 false) := own_zero (T := boolT) 9 [.bool false] false rfl rfl (by decide)
      refine WR.nil ?_
      change WC _ _ _ _ _ _
      refine WC.rs ?_
      refine va rfl rfl rfl (q_assign (v := .slice none 0 0) rfl (by kernel_rfl)) ?_
      refine WR.nil ?_
      change WC _ _ _ _ _ _
      refine WC.seq ?_
      refine WC.rs ?_
      refine va rfl rfl rfl (q_move (v := .slice A9 z43.length c10) rfl (by kernel_rfl)) ?_
      refine va rfl rfl rfl (q_len_slice rfl Try.underlying43 rfl) ?_
      refine va rfl rfl rfl (q_move (v := .int .i64 0) rfl (by kernel_rfl)) ?_
      refine WR.nil ?_
      change WC _ _ _ _ _ _
      refine WC.block ?_
      refine WC.forI h (fun (i71 : Nat) (s : (List Int) × (List Bool)) σ w => match s with | (out_61, x66) => ∃ (A62 : Option Addr), ∃ (c63 : Nat), ∃ (row64 : Rowb), ∃ (row67 : Rowb), slots σ [(5, .slice A9 z43.length c10), (10, .int .i64 z57.1), (12, .pointer (some ⟨g59, 0, none⟩)), (13, .slice A62 out_61.length c63), (62, .int .i64 ((z43.length : Nat) : Int)), (63, .int .i64 ((i71 : Nat) : Int))] ∧ CC F Γ45 [row64, row67, row49] w ∧ Own intT Γ45 3 row64 A62 c63 out_61 ∧ x66.length = 9 ∧ Own boolT Γ45 54 row67 (some ⟨g59, 0, none⟩) 9 x66 ∧ True) ?_ ?_
      · skip
        intro w hw
        have hw := hw.pad
        exact ⟨none, 0, [], [(g59, .cells #[.bool false, .bool false, .bool false, .bool false, .bool false, .bool false, .bool false, .bool false, .bool false] 54 (0, 0))], (sl_ (by kernel_rfl)), (hw.only (is := [0, 0, 1]) rfl), (Own.nil intT _ 3), List.length_replicate, ho60, trivial⟩
      rintro f70 i71 ⟨out_61, x66⟩ σ w hi72 hlt73 hge74 ⟨A62, c63, row64, row67, hsl, hw, ho65, hn69, ho68, -⟩
      refine Wpt.slots hsl ?_
      refine WC.here (C := CC F Γ45 [row64, row67, row49]) ?_ hw
      clear hw hsl
      refine WC.rs ?_
      refine va rfl rfl rfl (q_lss rfl rfl rfl) ?_
      refine WR.nil ?_
      change WC _ _ _ _ _ _
      refine WC.seq ?_
      refine WC.cond (b := (decide (((i71 : Nat) : Int) < ((z43.length : Nat) : Int)))) (by kernel_rfl) (fun hb75 => ?_) (fun hb75 => ?_)
      · skip
        have hl76 := ilt hb75
        have h := hlt73 hl76
        refine WC.skip ?_
        change WC _ _ _ _ _ _
        refine WC.cut (fun σ w => ∃ (out_77 : List Int), ∃ (x82 : List Bool), ∃ (A78 : Option Addr), ∃ (c79 : Nat), ∃ (row80 : Rowb), ∃ (row83 : Rowb), m_ring_order_j10 f70 out_77 x82 = some r ∧ slots σ [(5, .slice A9 z43.length c10), (10, .int .i64 z57.1), (12, .pointer (some ⟨g59, 0, none⟩)), (13, .slice A78 out_77.length c79), (62, .int .i64 ((z43.length : Nat) : Int)), (63, .int .i64 ((i71 : Nat) : Int))] ∧ CC F Γ45 [row80, row83, row49] w ∧ Own intT Γ45 3 row80 A78 c79 out_77 ∧ x82.length = 9 ∧ Own boolT Γ45 54 row83 (some ⟨g59, 0, none⟩) 9 x82 ∧ True) ?_ ?_
        · skip
          refine WC.block ?_
          refine WC.rs ?_
          refine va rfl rfl rfl (q_move (v := .int .i64 ((i71 : Nat) : Int)) rfl (by kernel_rfl)) ?_
          refine va rfl rfl rfl (q_assign (v := .int .i64 ((i71 : Nat) : Int)) rfl (by kernel_rfl)) ?_
          refine WR.nil ?_
          change WC _ _ _ _ _ _
          refine WC.rs ?_
          refine va rfl rfl rfl (q_move (v := .slice A9 z43.length c10) rfl (by kernel_rfl)) ?_
          refine va rfl rfl rfl (q_move (v := .int .i64 z57.1) rfl (by kernel_rfl)) ?_
          refine va rfl rfl rfl (q_move (v := .int .i64 ((i71 : Nat) : Int)) rfl (by kernel_rfl)) ?_
          refine va rfl rfl rfl (q_add rfl rfl rfl) ?_
          refine va rfl rfl rfl (q_move (v := .slice A9 z43.length c10) rfl (by kernel_rfl)) ?_
          refine va rfl rfl rfl (q_len_slice rfl Try.underlying43 rfl) ?_
          obtain ⟨hk86, h⟩ := chk_some h
          refine va rfl rfl rfl (q_rem rfl rfl rfl hk86) ?_
          obtain ⟨hk87, h⟩ := chk_some h
          refine va rfl rfl rfl (q_ix Try.underlying43 Try.sizeOf45 rfl rfl rfl hk87 (ho50.some_ (inb_lt hk87))) ?_
          refine va rfl rfl rfl (q_field_addr ((((w64 (z57.1 + ((i71 : Nat) : Int))).tmod ((z43.length : Nat) : Int)).toNat) * 2 + 1) fld_45_1 rfl rfl (ho50.some_ (inb_lt hk87)) rfl) ?_
          refine va rfl rfl rfl (q_ldo (c := 1) (v := .int .i64 (gt z43 (((w64 (z57.1 + ((i71 : Nat) : Int))).tmod ((z43.length : Nat) : Int)).toNat)).node) (i := 2) rfl (ho50.dring_pointT_at (inb_lt hk87)).2 rfl Try.isAgg3 rfl rfl) ?_
          refine va rfl rfl rfl (q_assign (v := .int .i64 (gt z43 (((w64 (z57.1 + ((i71 : Nat) : Int))).tmod ((z43.length : Nat) : Int)).toNat)).node) rfl (by kernel_rfl)) ?_
          refine WR.nil ?_
          change WC _ _ _ _ _ _
          refine WC.rs ?_
          refine va rfl rfl rfl (q_move (v := .int .i64 (gt z43 (((w64 (z57.1 + ((i71 : Nat) : Int))).tmod ((z43.length : Nat) : Int)).toNat)).node) rfl (by kernel_rfl)) ?_
          obtain ⟨hk88, h⟩ := chk_some h
          refine va rfl rfl rfl (q_ixao Try.underlying54 Try.sizeOf4 rfl rfl rfl hk88) ?_
          refine va rfl rfl rfl (q_ldo (c := 0) (v := .bool (gt x66 (((gt z43 (((w64 (z57.1 + ((i71 : Nat) : Int))).tmod ((z43.length : Nat) : Int)).toNat)).node).toNat))) (i := 1) rfl (ho68.boolT_at (ltq (inb_lt hk88) hn69.symm)).2 rfl Try.isAgg4 rfl rfl) ?_
          refine va rfl rfl rfl (q_not rfl rfl) ?_
          refine WR.nil ?_
          change WC _ _ _ _ _ _
          refine WC.cif h (by kernel_rfl) (fun hb89 h => ?_) (fun hb89 h => ?_)
          · skip
            refine WC.rs ?_
            refine va rfl rfl rfl (q_move (v := .int .i64 (gt z43 (((w64 (z57.1 + ((i71 : Nat) : Int))).tmod ((z43.length : Nat) : Int)).toNat)).node) rfl (by kernel_rfl)) ?_
            refine va rfl rfl rfl (q_ixao Try.underlying54 Try.sizeOf4 rfl rfl rfl hk88) ?_
            refine e_store_own (T := boolT) (q := ((gt z43 (((w64 (z57.1 + ((i71 : Nat) : Int))).tmod ((z43.length : Nat) : Int)).toNat)).node).toNat) (v := .bool true) (y := true) rfl rfl rfl rfl (by kernel_rfl) Try.sizeOf4 (by exact rfl) (i := 1) rfl ho68 (ltq (inb_lt hk88) hn69.symm) ?_
            intro row90 ho91
            refine WR.nil ?_
            change WC _ _ _ _ _ _
            refine WC.region ?_
            refine va rfl rfl rfl (q_move (v := .slice A62 out_61.length c63) rfl (by kernel_rfl)) ?_
            refine va rfl rfl rfl (q_move (v := .int .i64 (gt z43 (((w64 (z57.1 + ((i71 : Nat) : Int))).tmod ((z43.length : Nat) : Int)).toNat)).node) rfl (by kernel_rfl)) ?_
            refine e_buildSlice (cs := #[.int .i64 (gt z43 (((w64 (z57.1 + ((i71 : Nat) : Int))).tmod ((z43.length : Nat) : Int)).toNat)).node]) (e := 3) rfl rfl rfl rfl (fun w => by kernel_rfl) ?_
            intro g92
            obtain ⟨hk93, h⟩ := chk_some h
            refine e_append (T := intT) (xs := out_61) (ys := [(gt z43 (((w64 (z57.1 + ((i71 : Nat) : Int))).tmod ((z43.length : Nat) : Int)).toNat)).node]) elem_22 (i := 1) rfl rfl rfl rfl rfl rfl rfl ho65 (of_decide_eq_true hk93) (fun w hw => src_one (T := intT) (y := (gt z43 (((w64 (z57.1 + ((i71 : Nat) : Int))).tmod ((z43.length : Nat) : Int)).toNat)).node) (i := 0) rfl (by exact ⟨rfl, (ho50.dring_pointT_at (inb_lt hk87)).1.2⟩) hw) ?_
            intro row94 A95 c96 ho97
            refine va rfl rfl rfl (q_assign (v := .slice A95 (out_61 ++ [(gt z43 (((w64 (z57.1 + ((i71 : Nat) : Int))).tmod ((z43.length : Nat) : Int)).toNat)).node]).length c96) rfl (by kernel_rfl)) ?_
            refine WR.nil ?_
            intro w hw
            exact ⟨(out_61 ++ [(gt z43 (((w64 (z57.1 + ((i71 : Nat) : Int))).tmod ((z43.length : Nat) : Int)).toNat)).node]), (List.set x66 (((gt z43 (((w64 (z57.1 + ((i71 : Nat) : Int))).tmod ((z43.length : Nat) : Int)).toNat)).node).toNat) true), A95, c96, row94, row90, h, (sl_ (by kernel_rfl)), (hw.only (is := [1, 1, 1]) rfl), ho97, (List.length_set.trans hn69), ho91, trivial⟩
          · skip
            refine WC.skip ?_
            intro w hw
            exact ⟨out_61, x66, A62, c63, row64, row67, h, (sl_ (by kernel_rfl)), hw, ho65, hn69, ho68, trivial⟩
        · skip
          rintro σ w ⟨out_77, x82, A78, c79, row80, row83, h, hsl, hw, ho81, hn85, ho84, -⟩
          refine Wpt.slots hsl ?_
          refine WC.here (C := CC F Γ45 [row80, row83, row49]) ?_ hw
          clear hw hsl
          refine WC.region ?_
          refine va rfl rfl rfl (q_add_r (r := ((i71 + 1 : Nat) : Int)) rfl rfl rfl (ctr_len hl76 ho50.le)) ?_
          refine va rfl rfl rfl (q_move (v := .int .i64 ((i71 + 1 : Nat) : Int)) rfl (by kernel_rfl)) ?_
          refine WR.nil ?_
          intro w hw
          exact ⟨hl76, (out_77, x82), h, A78, c79, row80, row83, (sl_ (by kernel_rfl)), hw, ho81, hn85, ho84, trivial⟩
      · skip
        have h := hge74 (ige hb75)
        refine WC.exit ?_
        change WC _ _ _ _ _ _
        refine WC.rs ?_
        refine va rfl rfl rfl (q_move (v := .slice A62 out_61.length c63) rfl (by kernel_rfl)) ?_
        refine va rfl rfl rfl (q_assign (v := .slice A62 out_61.length c63) rfl (by kernel_rfl)) ?_
        refine WR.nil ?_
        change WC _ _ _ _ _ _
        refine WC.ret ?_
        intro w hw
        obtain rfl := Option.some.inj h
        subst hF
        exact end_e (is := [0]) (by kernel_rfl) hw rfl ⟨A62, c63, row64, rfl, rfl, ho65, trivial⟩
abbrev r_slices_Clone_int_int (r : List Int) (U : List Rowb) (Γ : Gh) (v : Value) : Prop := ∃ (A0 : Option Addr), ∃ (c0 : Nat), ∃ (row0 : Rowb), v = .slice A0 r.length c0 ∧ U = [row0] ∧ Own intT Γ 3 row0 A0 c0 r ∧ True
set_option maxRecDepth 100000 in
set_option maxHeartbeats 400000 in
theorem t_slices_Clone_int_int {Γ : Gh} {w0 : World} {As_ : Option Addr} {cs_ : Nat} {s_ : List Int} (hs_ : Sl intT Γ As_ s_) (hs_c : s_.length ≤ cs_) (hp : Pre [] Γ w0) {r : List Int} (h : m_slices_Clone_int_int s_ = some r) : Calls Try.prog 23 #[.slice As_ s_.length cs_] w0 (Outc Γ [] w0 (r_slices_Clone_int_int r)) := by
  refine calls_of (N := 8) (rs := [2]) (args := [.slice As_ s_.length cs_]) Try.func23 rfl Try.ntmps23 Try.results23 rfl ?_
  obtain ⟨F, hF⟩ : ∃ F : Fm, F = ⟨ids [], w0, Γ⟩ := ⟨_, rfl⟩
  refine WC.here (C := CC F Γ []) ?_ (hF ▸ hp.start)
  refine WC.rs ?_
  refine va rfl rfl rfl (q_assign (v := .slice none 0 0) rfl (by kernel_rfl)) ?_
  refine WR.nil ?_
  change WC _ _ _ _ _ _
  refine WC.seq ?_
  refine WC.rs ?_
  refine va rfl rfl rfl (q_move (v := .slice As_ s_.length cs_) rfl (by kernel_rfl)) ?_
  refine va rfl rfl rfl (q_nil_slice Try.underlying22 rfl rfl rfl) ?_
  refine WR.nil ?_
  change WC _ _ _ _ _ _
  refine WC.cnil h (by kernel_rfl) (fun hb => hs_.none_nil hb) (fun hb1 h => ?_) (fun hb1 h => ?_)
  · skip
    refine WC.rs ?_
    refine va rfl rfl rfl (q_assign (v := .slice none 0 0) rfl (by kernel_rfl)) ?_
    refine WR.nil ?_
    change WC _ _ _ _ _ _
    refine WC.ret ?_
    intro w hw
    have hw := hw.pad
    obtain rfl := Option.some.inj h
    subst hF
    exact end_e (is := [0]) (by kernel_rfl) hw rfl ⟨none, 0, [], rfl, rfl, (Own.nil intT _ 3), trivial⟩
  · skip
    refine WC.skip ?_
    change WC _ _ _ _ _ _
    refine WC.rs ?_
    refine e_buildSlice (cs := #[]) (e := 3) rfl rfl rfl rfl (fun w => by kernel_rfl) ?_
    intro g2
    refine va rfl rfl rfl (q_move (v := .slice As_ s_.length cs_) rfl (by kernel_rfl)) ?_
    have ho3 : Own intT Γ 3 [(g2, .cells #[] 3 (0, 0))] (some ⟨g2, 0, none⟩) 0 ([] : List Int) := Own.of_block (T := intT) (ys := ([] : List Int)) [] rfl rfl (show 0 ≤ lim by decide) (fun i h => absurd h (by simp))
    obtain ⟨hk4, h⟩ := chk_some h
    refine e_append (T := intT) (xs := ([] : List Int)) (ys := s_) elem_22 (i := 0) rfl rfl rfl rfl rfl rfl rfl ho3 (of_decide_eq_true hk4) (fun w hw => src_sl hs_ hw) ?_
    intro row5 A6 c7 ho8
    refine va rfl rfl rfl (q_assign (v := .slice A6 (([] : List Int) ++ s_).length c7) rfl (by kernel_rfl)) ?_
    refine WR.nil ?_
    change WC _ _ _ _ _ _
    refine WC.ret ?_
    intro w hw
    obtain rfl := Option.some.inj h
    subst hF
    exact end_e (is := [0]) (by kernel_rfl) hw rfl ⟨A6, c7, row5, rfl, rfl, ho8, trivial⟩
abbrev r_ring_List (r : List Int) (U : List Rowb) (Γ : Gh) (v : Value) : Prop := ∃ (A0 : Option Addr), ∃ (c0 : Nat), ∃ (row0 : Rowb), v = .slice A0 r.length c0 ∧ U = [row0] ∧ Own intT Γ 3 row0 A0 c0 r ∧ True
set_option maxRecDepth 100000 in
set_option maxHeartbeats 400000 in
theorem t_ring_List {Γ : Gh} {w0 : World} {Amembers : Option Addr} {cmembers : Nat} {members : List Int} (hmembers : Sl intT Γ Amembers members) (hmembersc : members.length ≤ cmembers) (part : Int) (hpart : I64 part) (n : Int) (hn : I64 n) (hp : Pre [] Γ w0) {r : List Int} (h : m_ring_List members part n = some r) : Calls Try.prog 11 #[.slice Amembers members.length cmembers, .int .i64 part, .int .i64 n] w0 (Outc Γ [] w0 (r_ring_List r)) := by
  refine calls_of (N := 19) (rs := [6]) (args := [.slice Amembers members.length cmembers, .int .i64 part, .int .i64 n]) Try.func11 rfl Try.ntmps11 Try.results11 rfl ?_
  obtain ⟨F, hF⟩ : ∃ F : Fm, F = ⟨ids [], w0, Γ⟩ := ⟨_, rfl⟩
  refine WC.here (C := CC F Γ []) ?_ (hF ▸ hp.start)
  refine WC.rs ?_
  refine va rfl rfl rfl (q_assign (v := .slice none 0 0) rfl (by kernel_rfl)) ?_
  refine WR.nil ?_
  change WC _ _ _ _ _ _
  refine WC.rs ?_
  refine va rfl rfl rfl (q_move (v := .slice Amembers members.length cmembers) rfl (by kernel_rfl)) ?_
  refine va rfl rfl rfl (q_move (v := .int .i64 part) rfl (by kernel_rfl)) ?_
  obtain ⟨z1, hz2, h⟩ := bnd h
  refine e_call (is := []) rfl rfl (call_run Try.call22 rfl rfl (by kernel_rfl)) rfl (fun w hp => t_ring_order hmembers hmembersc part hpart hp hz2) ?_
  rintro Γ3 U5 v6 hl4 ⟨A7, c8, row9, rfl, rfl, hr10, _⟩
  change WR _ _ _ (CC F Γ3 [row9]) _ _ (upd _ 10 (.slice A7 z1.length c8))
  refine va rfl rfl rfl (q_assign (v := .slice A7 z1.length c8) rfl (by kernel_rfl)) ?_
  refine WR.nil ?_
  change WC _ _ _ _ _ _
  refine WC.rs ?_
  refine va rfl rfl rfl (q_move (v := .slice A7 z1.length c8) rfl (by kernel_rfl)) ?_
  refine va rfl rfl rfl (q_move (v := .int .i64 n) rfl (by kernel_rfl)) ?_
  refine va rfl rfl rfl (q_max rfl rfl rfl) ?_
  refine va rfl rfl rfl (q_move (v := .slice A7 z1.length c8) rfl (by kernel_rfl)) ?_
  refine va rfl rfl rfl (q_len_slice rfl Try.underlying22 rfl) ?_
  refine va rfl rfl rfl (q_min rfl rfl rfl) ?_
  have hc15 := hr10.capz
  intro w hw; obtain ⟨Γ11, hw, hl12, hr13⟩ := hw.seal (i := 0) rfl; have hs14 := hr10.sl hl12 hr13
  refine WR.here (C := CC F Γ11 [[]]) ?_ hw
  clear hw
  obtain ⟨hk16, h⟩ := chk_some h
  refine va rfl rfl rfl (q_cut_to (c := c8) (hi := (min (max n 0) ((z1.length : Nat) : Int)).toNat) (xs := z1) Try.underlying22 Try.sizeOf3 rfl rfl (inle_eq rfl hk16) (inle_le hk16) hc15) ?_
  obtain ⟨z17, hz18, h⟩ := bnd h
  refine e_call (is := []) rfl rfl (call_run Try.call23 rfl rfl (by kernel_rfl)) rfl (fun w hp => t_slices_Clone_int_int (hs14.cut_to (hi := (min (max n 0) ((z1.length : Nat) : Int)).toNat) (inle_le hk16)) (take_cap hc15 ((min (max n 0) ((z1.length : Nat) : Int)).toNat)) hp hz18) ?_
  rintro Γ19 U21 v22 hl20 ⟨A23, c24, row25, rfl, rfl, hr26, _⟩
  change WR _ _ _ (CC F Γ19 [row25, []]) _ _ (upd _ 18 (.slice A23 z17.length c24))
  refine va rfl rfl rfl (q_assign (v := .slice A23 z17.length c24) rfl (by kernel_rfl)) ?_
  refine WR.nil ?_
  change WC _ _ _ _ _ _
  refine WC.ret ?_
  intro w hw
  obtain rfl := Option.some.inj h
  subst hF
  exact end_e (is := [0]) (by kernel_rfl) hw rfl ⟨A23, c24, row25, rfl, rfl, hr26, trivial⟩
set_option maxRecDepth 100000 in
set_option maxHeartbeats 400000 in
theorem t_slices_Index_int_int {Γ : Gh} {w0 : World} {As_ : Option Addr} {cs_ : Nat} {s_ : List Int} (hs_ : Sl intT Γ As_ s_) (hs_c : s_.length ≤ cs_) (v_ : Int) (hv_ : I64 v_) (hs : Sat Γ w0) {r : Int} (h : m_slices_Index_int_int s_ v_ = some r) : Calls Try.prog 39 #[.slice As_ s_.length cs_, .int .i64 v_] w0 (fun e w' => e = .returned (.int .i64 r) ∧ Fr no w0 w') := by
  refine calls_of (N := 19) (rs := [4]) (args := [.slice As_ s_.length cs_, .int .i64 v_]) Try.func39 rfl Try.ntmps39 Try.results39 rfl ?_
  obtain ⟨F, hF⟩ : ∃ F : Fm, F = ⟨no, w0, Γ⟩ := ⟨_, rfl⟩
  refine WC.here (C := CC F Γ []) ?_ (hF ▸ Cur.start0 hs)
  refine WC.rs ?_
  refine va rfl rfl rfl (q_assign (v := .int .i64 0) rfl (by kernel_rfl)) ?_
  refine WR.nil ?_
  change WC _ _ _ _ _ _
  refine WC.seq ?_
  refine WC.rs ?_
  refine va rfl rfl rfl (q_move (v := .slice As_ s_.length cs_) rfl (by kernel_rfl)) ?_
  refine va rfl rfl rfl (q_len_slice rfl Try.underlying22 rfl) ?_
  refine va rfl rfl rfl (q_move (v := .int .i64 0) rfl (by kernel_rfl)) ?_
  refine WR.nil ?_
  change WC _ _ _ _ _ _
  refine WC.block ?_
  refine WC.forI h (fun (i2 : Nat) (s : Unit) σ w => match s with | () => slots σ [(0, .slice As_ s_.length cs_), (1, .int .i64 v_), (7, .int .i64 ((s_.length : Nat) : Int)), (8, .int .i64 ((i2 : Nat) : Int))] ∧ CC F Γ [] w ∧ True) ?_ ?_
  · skip
    intro w hw
    exact ⟨(sl_ (by kernel_rfl)), hw, trivial⟩
  rintro f1 i2 ⟨⟩ σ w hi3 hlt4 hge5 ⟨hsl, hw, -⟩
  refine Wpt.slots hsl ?_
  refine WC.here (C := CC F Γ []) ?_ hw
  clear hw hsl
  refine WC.rs ?_
  refine va rfl rfl rfl (q_lss rfl rfl rfl) ?_
  refine WR.nil ?_
  change WC _ _ _ _ _ _
  refine WC.seq ?_
  refine WC.cond (b := (decide (((i2 : Nat) : Int) < ((s_.length : Nat) : Int)))) (by kernel_rfl) (fun hb6 => ?_) (fun hb6 => ?_)
  · skip
    have hl7 := ilt hb6
    have h := hlt4 hl7
    refine WC.skip ?_
    change WC _ _ _ _ _ _
    refine WC.seq ?_
    refine WC.block ?_
    refine WC.rs ?_
    refine va rfl rfl rfl (q_move (v := .int .i64 ((i2 : Nat) : Int)) rfl (by kernel_rfl)) ?_
    refine va rfl rfl rfl (q_assign (v := .int .i64 ((i2 : Nat) : Int)) rfl (by kernel_rfl)) ?_
    refine WR.nil ?_
    change WC _ _ _ _ _ _
    refine WC.rs ?_
    refine va rfl rfl rfl (q_move (v := .int .i64 v_) rfl (by kernel_rfl)) ?_
    refine va rfl rfl rfl (q_move (v := .slice As_ s_.length cs_) rfl (by kernel_rfl)) ?_
    refine va rfl rfl rfl (q_move (v := .int .i64 ((i2 : Nat) : Int)) rfl (by kernel_rfl)) ?_
    refine va rfl rfl rfl (q_ixn (i := i2) Try.underlying22 Try.sizeOf3 rfl rfl rfl hl7 (hs_.some_ hl7)) ?_
    refine va rfl rfl rfl (q_ld (c := 0) (v := .int .i64 (gt s_ i2)) (hs_.intT_at hl7).2 rfl Try.isAgg3 rfl rfl) ?_
    refine va rfl rfl rfl (q_eql rfl rfl rfl) ?_
    refine WR.nil ?_
    change WC _ _ _ _ _ _
    refine WC.cif h (by kernel_rfl) (fun hb8 h => ?_) (fun hb8 h => ?_)
    · skip
      refine WC.rs ?_
      refine va rfl rfl rfl (q_move (v := .int .i64 ((i2 : Nat) : Int)) rfl (by kernel_rfl)) ?_
      refine va rfl rfl rfl (q_assign (v := .int .i64 ((i2 : Nat) : Int)) rfl (by kernel_rfl)) ?_
      refine WR.nil ?_
      change WC _ _ _ _ _ _
      refine WC.ret ?_
      intro w hw
      obtain rfl := Option.some.inj h
      subst hF
      exact ⟨by kernel_rfl, hw.fr⟩
    · skip
      refine WC.skip ?_
      change WC _ _ _ _ _ _
      refine WC.region ?_
      refine va rfl rfl rfl (q_add_r (r := ((i2 + 1 : Nat) : Int)) rfl rfl rfl (ctr_len hl7 hs_.le)) ?_
      refine va rfl rfl rfl (q_move (v := .int .i64 ((i2 + 1 : Nat) : Int)) rfl (by kernel_rfl)) ?_
      refine WR.nil ?_
      intro w hw
      exact ⟨hl7, (), h, (sl_ (by kernel_rfl)), hw, trivial⟩
  · skip
    have h := hge5 (ige hb6)
    refine WC.exit ?_
    change WC _ _ _ _ _ _
    refine WC.rs ?_
    refine va rfl rfl rfl (q_assign (v := .int .i64 (-1)) rfl (by kernel_rfl)) ?_
    refine WR.nil ?_
    change WC _ _ _ _ _ _
    refine WC.ret ?_
    intro w hw
    obtain rfl := Option.some.inj h
    subst hF
    exact ⟨by kernel_rfl, hw.fr⟩
set_option maxRecDepth 100000 in
set_option maxHeartbeats 400000 in
theorem t_slices_Contains_int_int {Γ : Gh} {w0 : World} {As_ : Option Addr} {cs_ : Nat} {s_ : List Int} (hs_ : Sl intT Γ As_ s_) (hs_c : s_.length ≤ cs_) (v_ : Int) (hv_ : I64 v_) (hs : Sat Γ w0) {r : Bool} (h : m_slices_Contains_int_int s_ v_ = some r) : Calls Try.prog 28 #[.slice As_ s_.length cs_, .int .i64 v_] w0 (fun e w' => e = .returned (.bool r) ∧ Fr no w0 w') := by
  refine calls_of (N := 9) (rs := [4]) (args := [.slice As_ s_.length cs_, .int .i64 v_]) Try.func28 rfl Try.ntmps28 Try.results28 rfl ?_
  obtain ⟨F, hF⟩ : ∃ F : Fm, F = ⟨no, w0, Γ⟩ := ⟨_, rfl⟩
  refine WC.here (C := CC F Γ []) ?_ (hF ▸ Cur.start0 hs)
  refine WC.rs ?_
  refine va rfl rfl rfl (q_assign (v := .bool false) rfl (by kernel_rfl)) ?_
  refine WR.nil ?_
  change WC _ _ _ _ _ _
  refine WC.rs ?_
  refine va rfl rfl rfl (q_move (v := .slice As_ s_.length cs_) rfl (by kernel_rfl)) ?_
  refine va rfl rfl rfl (q_move (v := .int .i64 v_) rfl (by kernel_rfl)) ?_
  obtain ⟨z1, hz2, h⟩ := bnd h
  refine vc rfl rfl rfl (q_call (call_run Try.call39 rfl rfl (by kernel_rfl)) (fun w hw => t_slices_Index_int_int (Γ := Gh.all w) (hs_.mono hw.sat.le_all) hs_c v_ hv_ (Sat.all w) hz2)) ?_
  refine va rfl rfl rfl (q_geq rfl rfl rfl) ?_
  refine va rfl rfl rfl (q_assign (v := .bool (decide (0 ≤ z1))) rfl (by kernel_rfl)) ?_
  refine WR.nil ?_
  change WC _ _ _ _ _ _
  refine WC.ret ?_
  intro w hw
  obtain rfl := Option.some.inj h
  subst hF
  exact ⟨by kernel_rfl, hw.fr⟩
abbrev r_ring_Owns (r : List Int) (U : List Rowb) (Γ : Gh) (v : Value) : Prop := ∃ (A0 : Option Addr), ∃ (c0 : Nat), ∃ (row0 : Rowb), v = .slice A0 r.length c0 ∧ U = [row0] ∧ Own intT Γ 3 row0 A0 c0 r ∧ True
set_option maxRecDepth 100000 in
set_option maxHeartbeats 400000 in
theorem t_ring_Owns {Γ : Gh} {w0 : World} {Amembers : Option Addr} {cmembers : Nat} {members : List Int} (hmembers : Sl intT Γ Amembers members) (hmembersc : members.length ≤ cmembers) (node : Int) (hnode : I64 node) (n : Int) (hn : I64 n) (hp : Pre [] Γ w0) {r : List Int} (h : m_ring_Owns members node n = some r) : Calls Try.prog 19 #[.slice Amembers members.length cmembers, .int .i64 node, .int .i64 n] w0 (Outc Γ [] w0 (r_ring_Owns r)) := by
  refine calls_of (N := 24) (rs := [6]) (args := [.slice Amembers members.length cmembers, .int .i64 node, .int .i64 n]) Try.func19 rfl Try.ntmps19 Try.results19 rfl ?_
  obtain ⟨F, hF⟩ : ∃ F : Fm, F = ⟨ids [], w0, Γ⟩ := ⟨_, rfl⟩
  refine WC.here (C := CC F Γ []) ?_ (hF ▸ hp.start)
  refine WC.rs ?_
  refine va rfl rfl rfl (q_assign (v := .slice none 0 0) rfl (by kernel_rfl)) ?_
  refine WR.nil ?_
  change WC _ _ _ _ _ _
  refine WC.rs ?_
  refine va rfl rfl rfl (q_assign (v := .slice none 0 0) rfl (by kernel_rfl)) ?_
  refine WR.nil ?_
  change WC _ _ _ _ _ _
  refine WC.seq ?_
  refine WC.rs ?_
  refine va rfl rfl rfl (q_move (v := .int .i64 0) rfl (by kernel_rfl)) ?_
  refine WR.nil ?_
  change WC _ _ _ _ _ _
  refine WC.block ?_
  refine WC.forU h (fun (i9 : Nat) (out_3 : List Int) σ w => ∃ (Γ1 : Gh), ∃ (A4 : Option Addr), ∃ (c5 : Nat), ∃ (row6 : Rowb), slots σ [(0, .slice Amembers members.length cmembers), (1, .int .i64 node), (2, .int .i64 n), (7, .slice A4 out_3.length c5), (9, .int .i64 ((i9 : Nat) : Int))] ∧ CC F Γ1 [row6] w ∧ Gh.le Γ Γ1 ∧ Own intT Γ1 3 row6 A4 c5 out_3 ∧ True) ?_ ?_
  · skip
    intro w hw
    have hw := hw.pad
    exact ⟨Γ, none, 0, [], (sl_ (by kernel_rfl)), hw, (Gh.refl _), (Own.nil intT _ 3), trivial⟩
  rintro f8 i9 out_3 σ w hi10 hlt11 hge12 ⟨Γ1, A4, c5, row6, hsl, hw, hl2, ho7, -⟩
  refine Wpt.slots hsl ?_
  refine WC.here (C := CC F Γ1 [row6]) ?_ hw
  clear hw hsl
  refine WC.rs ?_
  refine va rfl rfl rfl (q_lss rfl rfl rfl) ?_
  refine WR.nil ?_
  change WC _ _ _ _ _ _
  refine WC.seq ?_
  refine WC.cond (b := (decide (((i9 : Nat) : Int) < 8))) (by kernel_rfl) (fun hb13 => ?_) (fun hb13 => ?_)
  · skip
    have hl14 := ilt hb13
    have h := hlt11 hl14
    refine WC.skip ?_
    change WC _ _ _ _ _ _
    refine WC.cut (fun σ w => ∃ (out_17 : List Int), ∃ (Γ15 : Gh), ∃ (A18 : Option Addr), ∃ (c19 : Nat), ∃ (row20 : Rowb), m_ring_Owns_j5 f8 out_17 = some r ∧ slots σ [(0, .slice Amembers members.length cmembers), (1, .int .i64 node), (2, .int .i64 n), (7, .slice A18 out_17.length c19), (9, .int .i64 ((i9 : Nat) : Int))] ∧ CC F Γ15 [row20] w ∧ Gh.le Γ1 Γ15 ∧ Own intT Γ15 3 row20 A18 c19 out_17 ∧ True) ?_ ?_
    · skip
      refine WC.block ?_
      refine WC.rs ?_
      refine va rfl rfl rfl (q_move (v := .int .i64 ((i9 : Nat) : Int)) rfl (by kernel_rfl)) ?_
      refine va rfl rfl rfl (q_assign (v := .int .i64 ((i9 : Nat) : Int)) rfl (by kernel_rfl)) ?_
      refine WR.nil ?_
      change WC _ _ _ _ _ _
      refine WC.rs ?_
      refine va rfl rfl rfl (q_move (v := .slice Amembers members.length cmembers) rfl (by kernel_rfl)) ?_
      refine va rfl rfl rfl (q_move (v := .int .i64 ((i9 : Nat) : Int)) rfl (by kernel_rfl)) ?_
      refine va rfl rfl rfl (q_move (v := .int .i64 n) rfl (by kernel_rfl)) ?_
      obtain ⟨z22, hz23, h⟩ := bnd h
      refine e_call (is := []) rfl rfl (call_run Try.call11 rfl rfl (by kernel_rfl)) rfl (fun w hp => t_ring_List (hmembers.mono hl2) hmembersc ((i9 : Nat) : Int) (ctr_lit0 hl14 (by decide)) n hn hp hz23) ?_
      rintro Γ24 U26 v27 hl25 ⟨A28, c29, row30, rfl, rfl, hr31, _⟩
      change WR _ _ _ (CC F Γ24 [row30, row6]) _ _ (upd _ 15 (.slice A28 z22.length c29))
      refine va rfl rfl rfl (q_move (v := .int .i64 node) rfl (by kernel_rfl)) ?_
      obtain ⟨z32, hz33, h⟩ := bnd h
      refine vc rfl rfl rfl (q_call (call_run Try.call28 rfl rfl (by kernel_rfl)) (fun w hw => t_slices_Contains_int_int (Γ := Gh.all w) (hr31.sl hw.sat.le_all (hw.ra 0 rfl)) hr31.capz node hnode (Sat.all w) hz33)) ?_
      refine WR.nil ?_
      change WC _ _ _ _ _ _
      refine WC.cif h (by kernel_rfl) (fun hb34 h => ?_) (fun hb34 h => ?_)
      · skip
        refine WC.region ?_
        refine va rfl rfl rfl (q_move (v := .slice A4 out_3.length c5) rfl (by kernel_rfl)) ?_
        refine va rfl rfl rfl (q_move (v := .int .i64 ((i9 : Nat) : Int)) rfl (by kernel_rfl)) ?_
        refine e_buildSlice (cs := #[.int .i64 ((i9 : Nat) : Int)]) (e := 3) rfl rfl rfl rfl (fun w => by kernel_rfl) ?_
        intro g35
        obtain ⟨hk36, h⟩ := chk_some h
        refine e_append (T := intT) (xs := out_3) (ys := [((i9 : Nat) : Int)]) elem_22 (i := 2) rfl rfl rfl rfl rfl rfl rfl (ho7.mono hl25) (of_decide_eq_true hk36) (fun w hw => src_one (T := intT) (y := ((i9 : Nat) : Int)) (i := 0) rfl (by exact ⟨rfl, (ctr_lit0 hl14 (by decide))⟩) hw) ?_
        intro row37 A38 c39 ho40
        refine va rfl rfl rfl (q_assign (v := .slice A38 (out_3 ++ [((i9 : Nat) : Int)]).length c39) rfl (by kernel_rfl)) ?_
        refine WR.nil ?_
        intro w hw
        exact ⟨(out_3 ++ [((i9 : Nat) : Int)]), Γ24, A38, c39, row37, h, (sl_ (by kernel_rfl)), (hw.only (is := [2]) rfl), hl25, ho40, trivial⟩
      · skip
        refine WC.skip ?_
        intro w hw
        exact ⟨out_3, Γ24, A4, c5, row6, h, (sl_ (by kernel_rfl)), (hw.only (is := [1]) rfl), hl25, (ho7.mono hl25), trivial⟩
    · skip
      rintro σ w ⟨out_17, Γ15, A18, c19, row20, h, hsl, hw, hl16, ho21, -⟩
      refine Wpt.slots hsl ?_
      refine WC.here (C := CC F Γ15 [row20]) ?_ hw
      clear hw hsl
      refine WC.region ?_
      refine va rfl rfl rfl (q_add_r (r := ((i9 + 1 : Nat) : Int)) rfl rfl rfl (ctr_lit hl14 (by decide))) ?_
      refine va rfl rfl rfl (q_move (v := .int .i64 ((i9 + 1 : Nat) : Int)) rfl (by kernel_rfl)) ?_
      refine WR.nil ?_
      intro w hw
      exact ⟨hl14, out_17, h, Γ15, A18, c19, row20, (sl_ (by kernel_rfl)), hw, (hl2.trans hl16), ho21, trivial⟩
  · skip
    have h := hge12 (ige hb13)
    refine WC.exit ?_
    change WC _ _ _ _ _ _
    refine WC.rs ?_
    refine va rfl rfl rfl (q_move (v := .slice A4 out_3.length c5) rfl (by kernel_rfl)) ?_
    refine va rfl rfl rfl (q_assign (v := .slice A4 out_3.length c5) rfl (by kernel_rfl)) ?_
    refine WR.nil ?_
    change WC _ _ _ _ _ _
    refine WC.ret ?_
    intro w hw
    obtain rfl := Option.some.inj h
    subst hF
    exact end_e (is := [0]) (by kernel_rfl) hw rfl ⟨A4, c5, row6, rfl, rfl, ho7, trivial⟩
set_option maxRecDepth 100000 in
set_option maxHeartbeats 400000 in
theorem t_firthlaw12_awake {Γ : Gh} {w0 : World}  (hs : Sat Γ w0) {r : Bool} (h : m_firthlaw12_awake = some r) : Calls Try.prog 9 #[] w0 (fun e w' => e = .returned (.bool r) ∧ Fr no w0 w') := by
  refine calls_of (N := 29) (rs := [0]) (args := []) Try.func9 rfl Try.ntmps9 Try.results9 rfl ?_
  obtain ⟨F, hF⟩ : ∃ F : Fm, F = ⟨no, w0, Γ⟩ := ⟨_, rfl⟩
  refine WC.here (C := CC F Γ []) ?_ (hF ▸ Cur.start0 hs)
  refine WC.rs ?_
  refine va rfl rfl rfl (q_assign (v := .bool false) rfl (by kernel_rfl)) ?_
  refine WR.nil ?_
  change WC _ _ _ _ _ _
  refine WC.rs ?_
  refine e_buildSlice (cs := #[.int .i64 4]) (e := 3) rfl rfl rfl rfl (fun w => by kernel_rfl) ?_
  intro g1
  have ho2 : Own intT Γ 3 [(g1, .cells #[.int .i64 4] 3 (0, 0))] (some ⟨g1, 0, none⟩) 1 [4] := Own.of_block (T := intT) (ys := [4]) [[.int .i64 4]] rfl rfl (show 1 ≤ lim by decide) (fun i h => match i, h with | 0, _ => (show Ty.rd intT Γ [.int .i64 4] 4 from ⟨rfl, (show I64 4 by decide)⟩))
  have hc7 := ho2.capz
  intro w hw; obtain ⟨Γ3, hw, hl4, hr5⟩ := hw.seal (i := 0) rfl; have hs6 := ho2.sl hl4 hr5
  refine WR.here (C := CC F Γ3 [[]]) ?_ hw
  clear hw
  obtain ⟨z8, hz9, h⟩ := bnd h
  refine e_call (is := []) rfl rfl (call_run Try.call11 rfl rfl (by kernel_rfl)) rfl (fun w hp => t_ring_List hs6 hc7 0 (show I64 0 by decide) 1 (show I64 1 by decide) hp hz9) ?_
  rintro Γ10 U12 v13 hl11 ⟨A14, c15, row16, rfl, rfl, hr17, _⟩
  change WR _ _ _ (CC F Γ10 [row16, []]) _ _ (upd _ 3 (.slice A14 z8.length c15))
  refine va rfl rfl rfl (q_assign (v := .slice A14 z8.length c15) rfl (by kernel_rfl)) ?_
  refine WR.nil ?_
  change WC _ _ _ _ _ _
  refine WC.rs ?_
  refine va rfl rfl rfl (q_move (v := .slice A14 z8.length c15) rfl (by kernel_rfl)) ?_
  refine va rfl rfl rfl (q_len_slice rfl Try.underlying22 rfl) ?_
  refine va rfl rfl rfl (q_eql rfl rfl rfl) ?_
  refine va rfl rfl rfl (q_move (v := .bool (((z8.length : Nat) : Int) == 1)) rfl (by kernel_rfl)) ?_
  refine vg1 rfl rfl rfl rfl rfl (fun hg18 => QV.qo (q_move (v := .slice A14 z8.length c15) rfl (by kernel_rfl))) ?_
  obtain ⟨hk20, h⟩ := chk_some h
  refine vg1 rfl rfl rfl rfl rfl (fun hg19 => QV.qo (q_ixn (i := 0) Try.underlying22 Try.sizeOf3 rfl (gu hg19 rfl) rfl (of_decide_eq_true (imp_of hk20 hg19)) (hr17.some_ (of_decide_eq_true (imp_of hk20 hg19))))) ?_
  refine vg1 rfl rfl rfl rfl rfl (fun hg21 => QV.qo (q_ldo (c := 0) (v := .int .i64 (gt z8 0)) (i := 0) rfl (hr17.intT_at (of_decide_eq_true (imp_of hk20 hg21))).2 rfl Try.isAgg3 (gu hg21 rfl) rfl)) ?_
  refine vg1 rfl rfl rfl rfl rfl (fun hg22 => QV.qo (q_eql rfl (gu hg22 rfl) rfl)) ?_
  refine va rfl rfl rfl (q_pick rfl rfl (pk_and' (g := (((z8.length : Nat) : Int) == 1)) (y := ((gt z8 0) == 4)))) ?_
  refine va rfl rfl rfl (q_move (v := .bool ((((z8.length : Nat) : Int) == 1) && ((gt z8 0) == 4))) rfl (by kernel_rfl)) ?_
  refine (Bool.eq_false_or_eq_true ((((z8.length : Nat) : Int) == 1) && ((gt z8 0) == 4))).elim (fun hb23 => ?_) (fun hb23 => ?_)
  · skip
    have h := bt hb23 h
    refine WR.sat (c0 := true) (g := ((((z8.length : Nat) : Int) == 1) && ((gt z8 0) == 4))) rfl rfl rfl hb23 ?_
    refine e_buildSlice (cs := #[.int .i64 1, .int .i64 3]) (e := 3) rfl rfl rfl rfl (fun w => by kernel_rfl) ?_
    intro g24
    refine WR.sat (c0 := true) (g := ((((z8.length : Nat) : Int) == 1) && ((gt z8 0) == 4))) rfl rfl rfl hb23 ?_
    have ho25 : Own intT Γ10 3 [(g24, .cells #[.int .i64 1, .int .i64 3] 3 (0, 0))] (some ⟨g24, 0, none⟩) 2 [1, 3] := Own.of_block (T := intT) (ys := [1, 3]) [[.int .i64 1], [.int .i64 3]] rfl rfl (show 2 ≤ lim by decide) (fun i h => match i, h with | 0, _ => (show Ty.rd intT Γ10 [.int .i64 1] 1 from ⟨rfl, (show I64 1 by decide)⟩) | 1, _ => (show Ty.rd intT Γ10 [.int .i64 3] 3 from ⟨rfl, (show I64 3 by decide)⟩))
    obtain ⟨z26, hz27, h⟩ := bnd h
    refine vc rfl rfl rfl (q_call (call_run Try.call15 rfl rfl (by kernel_rfl)) (fun w hw => t_ring_Right (Γ := Gh.all w) (ho25.sl hw.sat.le_all (hw.ra 0 rfl)) ho25.capz (Sat.all w) hz27)) ?_
    refine va rfl rfl rfl (q_pick_t (v := .bool z26) rfl rfl hb23 (by kernel_rfl)) ?_
    refine va rfl rfl rfl (q_move (v := .bool z26) rfl (by kernel_rfl)) ?_
    refine (Bool.eq_false_or_eq_true z26).elim (fun hb28 => ?_) (fun hb28 => ?_)
    · skip
      have h := bt hb28 h
      refine WR.sat (c0 := true) (g := z26) rfl rfl rfl hb28 ?_
      refine e_buildSlice (cs := #[.int .i64 1, .int .i64 2, .int .i64 3]) (e := 3) rfl rfl rfl rfl (fun w => by kernel_rfl) ?_
      intro g29
      refine WR.sat (c0 := true) (g := z26) rfl rfl rfl hb28 ?_
      have ho30 : Own intT Γ10 3 [(g29, .cells #[.int .i64 1, .int .i64 2, .int .i64 3] 3 (0, 0))] (some ⟨g29, 0, none⟩) 3 [1, 2, 3] := Own.of_block (T := intT) (ys := [1, 2, 3]) [[.int .i64 1], [.int .i64 2], [.int .i64 3]] rfl rfl (show 3 ≤ lim by decide) (fun i h => match i, h with | 0, _ => (show Ty.rd intT Γ10 [.int .i64 1] 1 from ⟨rfl, (show I64 1 by decide)⟩) | 1, _ => (show Ty.rd intT Γ10 [.int .i64 2] 2 from ⟨rfl, (show I64 2 by decide)⟩) | 2, _ => (show Ty.rd intT Γ10 [.int .i64 3] 3 from ⟨rfl, (show I64 3 by decide)⟩))
      have hc35 := ho30.capz
      intro w hw; obtain ⟨Γ31, hw, hl32, hr33⟩ := hw.seal (i := 0) rfl; have hs34 := ho30.sl hl32 hr33
      refine WR.here (C := CC F Γ31 [[], [(g24, .cells #[.int .i64 1, .int .i64 3] 3 (0, 0))], row16, []]) ?_ hw
      clear hw
      obtain ⟨z36, hz37, h⟩ := bnd h
      refine e_call (is := []) rfl rfl (call_run Try.call11 rfl rfl (by kernel_rfl)) rfl (fun w hp => t_ring_List hs34 hc35 5 (show I64 5 by decide) 9 (show I64 9 by decide) hp hz37) ?_
      rintro Γ38 U40 v41 hl39 ⟨A42, c43, row44, rfl, rfl, hr45, _⟩
      change WR _ _ _ (CC F Γ38 [row44, [], [(g24, .cells #[.int .i64 1, .int .i64 3] 3 (0, 0))], row16, []]) _ _ (upd _ 19 (.slice A42 z36.length c43))
      refine WR.sat (c0 := true) (g := z26) rfl rfl rfl hb28 ?_
      refine va rfl rfl rfl (q_len_slice rfl Try.underlying22 rfl) ?_
      refine WR.sat (c0 := true) (g := z26) rfl rfl rfl hb28 ?_
      refine va rfl rfl rfl (q_eql rfl rfl rfl) ?_
      refine va rfl rfl rfl (q_pick_t (v := .bool (((z36.length : Nat) : Int) == 3)) rfl rfl hb28 (by kernel_rfl)) ?_
      refine va rfl rfl rfl (q_move (v := .bool (((z36.length : Nat) : Int) == 3)) rfl (by kernel_rfl)) ?_
      refine (Bool.eq_false_or_eq_true (((z36.length : Nat) : Int) == 3)).elim (fun hb46 => ?_) (fun hb46 => ?_)
      · skip
        have h := bt hb46 h
        refine WR.sat (c0 := true) (g := (((z36.length : Nat) : Int) == 3)) rfl rfl rfl hb46 ?_
        refine e_buildSlice (cs := #[.int .i64 4]) (e := 3) rfl rfl rfl rfl (fun w => by kernel_rfl) ?_
        intro g47
        refine WR.sat (c0 := true) (g := (((z36.length : Nat) : Int) == 3)) rfl rfl rfl hb46 ?_
        have ho48 : Own intT Γ38 3 [(g47, .cells #[.int .i64 4] 3 (0, 0))] (some ⟨g47, 0, none⟩) 1 [4] := Own.of_block (T := intT) (ys := [4]) [[.int .i64 4]] rfl rfl (show 1 ≤ lim by decide) (fun i h => match i, h with | 0, _ => (show Ty.rd intT Γ38 [.int .i64 4] 4 from ⟨rfl, (show I64 4 by decide)⟩))
        have hc53 := ho48.capz
        intro w hw; obtain ⟨Γ49, hw, hl50, hr51⟩ := hw.seal (i := 0) rfl; have hs52 := ho48.sl hl50 hr51
        refine WR.here (C := CC F Γ49 [[], row44, [], [(g24, .cells #[.int .i64 1, .int .i64 3] 3 (0, 0))], row16, []]) ?_ hw
        clear hw
        obtain ⟨z54, hz55, h⟩ := bnd h
        refine e_call (is := []) rfl rfl (call_run Try.call19 rfl rfl (by kernel_rfl)) rfl (fun w hp => t_ring_Owns hs52 hc53 4 (show I64 4 by decide) 1 (show I64 1 by decide) hp hz55) ?_
        rintro Γ56 U58 v59 hl57 ⟨A60, c61, row62, rfl, rfl, hr63, _⟩
        change WR _ _ _ (CC F Γ56 [row62, [], row44, [], [(g24, .cells #[.int .i64 1, .int .i64 3] 3 (0, 0))], row16, []]) _ _ (upd _ 25 (.slice A60 z54.length c61))
        refine WR.sat (c0 := true) (g := (((z36.length : Nat) : Int) == 3)) rfl rfl rfl hb46 ?_
        refine va rfl rfl rfl (q_len_slice rfl Try.underlying22 rfl) ?_
        refine WR.sat (c0 := true) (g := (((z36.length : Nat) : Int) == 3)) rfl rfl rfl hb46 ?_
        refine va rfl rfl rfl (q_eql rfl rfl rfl) ?_
        refine va rfl rfl rfl (q_pick_t (v := .bool (((z54.length : Nat) : Int) == 8)) rfl rfl hb46 (by kernel_rfl)) ?_
        refine va rfl rfl rfl (q_assign (v := .bool (((z54.length : Nat) : Int) == 8)) rfl (by kernel_rfl)) ?_
        refine WR.nil ?_
        change WC _ _ _ _ _ _
        refine WC.ret ?_
        intro w hw
        obtain rfl := Option.some.inj h
        subst hF
        exact ⟨by kernel_rfl, hw.fr⟩
      · skip
        have h := bf hb46 h
        refine WR.unsat (c0 := true) (g := (((z36.length : Nat) : Int) == 3)) rfl rfl rfl hb46 rfl ?_
        refine WR.unsat (c0 := true) (g := (((z36.length : Nat) : Int) == 3)) rfl rfl rfl hb46 rfl ?_
        refine WR.unsat (c0 := true) (g := (((z36.length : Nat) : Int) == 3)) rfl rfl rfl hb46 rfl ?_
        refine WR.unsat (c0 := true) (g := (((z36.length : Nat) : Int) == 3)) rfl rfl rfl hb46 rfl ?_
        refine va rfl rfl rfl (q_pick_f (v := .bool false) rfl rfl hb46 (by kernel_rfl)) ?_
        refine va rfl rfl rfl (q_assign (v := .bool false) rfl (by kernel_rfl)) ?_
        refine WR.nil ?_
        change WC _ _ _ _ _ _
        refine WC.ret ?_
        intro w hw
        obtain rfl := Option.some.inj h
        subst hF
        exact ⟨by kernel_rfl, hw.fr⟩
    · skip
      have h := bf hb28 h
      refine WR.unsat (c0 := true) (g := z26) rfl rfl rfl hb28 rfl ?_
      refine WR.unsat (c0 := true) (g := z26) rfl rfl rfl hb28 rfl ?_
      refine WR.unsat (c0 := true) (g := z26) rfl rfl rfl hb28 rfl ?_
      refine WR.unsat (c0 := true) (g := z26) rfl rfl rfl hb28 rfl ?_
      refine va rfl rfl rfl (q_pick_f (v := .bool false) rfl rfl hb28 (by kernel_rfl)) ?_
      refine va rfl rfl rfl (q_move (v := .bool false) rfl (by kernel_rfl)) ?_
      refine WR.unsat (c0 := true) (g := false) rfl rfl rfl rfl rfl ?_
      refine WR.unsat (c0 := true) (g := false) rfl rfl rfl rfl rfl ?_
      refine WR.unsat (c0 := true) (g := false) rfl rfl rfl rfl rfl ?_
      refine WR.unsat (c0 := true) (g := false) rfl rfl rfl rfl rfl ?_
      refine va rfl rfl rfl (q_pickf (v := .bool false) rfl rfl rfl) ?_
      refine va rfl rfl rfl (q_assign (v := .bool false) rfl (by kernel_rfl)) ?_
      refine WR.nil ?_
      change WC _ _ _ _ _ _
      refine WC.ret ?_
      intro w hw
      obtain rfl := Option.some.inj h
      subst hF
      exact ⟨by kernel_rfl, hw.fr⟩
  · skip
    have h := bf hb23 h
    refine WR.unsat (c0 := true) (g := ((((z8.length : Nat) : Int) == 1) && ((gt z8 0) == 4))) rfl rfl rfl hb23 rfl ?_
    refine WR.unsat (c0 := true) (g := ((((z8.length : Nat) : Int) == 1) && ((gt z8 0) == 4))) rfl rfl rfl hb23 rfl ?_
    refine va rfl rfl rfl (q_pick_f (v := .bool false) rfl rfl hb23 (by kernel_rfl)) ?_
    refine va rfl rfl rfl (q_move (v := .bool false) rfl (by kernel_rfl)) ?_
    refine WR.unsat (c0 := true) (g := false) rfl rfl rfl rfl rfl ?_
    refine WR.unsat (c0 := true) (g := false) rfl rfl rfl rfl rfl ?_
    refine WR.unsat (c0 := true) (g := false) rfl rfl rfl rfl rfl ?_
    refine WR.unsat (c0 := true) (g := false) rfl rfl rfl rfl rfl ?_
    refine va rfl rfl rfl (q_pickf (v := .bool false) rfl rfl rfl) ?_
    refine va rfl rfl rfl (q_move (v := .bool false) rfl (by kernel_rfl)) ?_
    refine WR.unsat (c0 := true) (g := false) rfl rfl rfl rfl rfl ?_
    refine WR.unsat (c0 := true) (g := false) rfl rfl rfl rfl rfl ?_
    refine WR.unsat (c0 := true) (g := false) rfl rfl rfl rfl rfl ?_
    refine WR.unsat (c0 := true) (g := false) rfl rfl rfl rfl rfl ?_
    refine va rfl rfl rfl (q_pickf (v := .bool false) rfl rfl rfl) ?_
    refine va rfl rfl rfl (q_assign (v := .bool false) rfl (by kernel_rfl)) ?_
    refine WR.nil ?_
    change WC _ _ _ _ _ _
    refine WC.ret ?_
    intro w hw
    obtain rfl := Option.some.inj h
    subst hF
    exact ⟨by kernel_rfl, hw.fr⟩
set_option maxRecDepth 100000 in
set_option maxHeartbeats 400000 in
theorem t_firthref12_Right {Γ : Gh} {w0 : World} {Amembers : Option Addr} {cmembers : Nat} {members : List Int} (hmembers : Sl intT Γ Amembers members) (hmembersc : members.length ≤ cmembers) (hs : Sat Γ w0) {r : Bool} (h : m_firthref12_Right members = some r) : Calls Try.prog 10 #[.slice Amembers members.length cmembers] w0 (fun e w' => e = .returned (.bool r) ∧ Fr no w0 w') := by
  refine calls_of (N := 44) (rs := [2]) (args := [.slice Amembers members.length cmembers]) Try.func10 rfl Try.ntmps10 Try.results10 rfl ?_
  obtain ⟨F, hF⟩ : ∃ F : Fm, F = ⟨no, w0, Γ⟩ := ⟨_, rfl⟩
  refine WC.here (C := CC F Γ []) ?_ (hF ▸ Cur.start0 hs)
  refine WC.rs ?_
  refine va rfl rfl rfl (q_assign (v := .bool false) rfl (by kernel_rfl)) ?_
  refine WR.nil ?_
  change WC _ _ _ _ _ _
  refine WC.seq ?_
  refine WC.rs ?_
  refine va rfl rfl rfl (q_move (v := .slice Amembers members.length cmembers) rfl (by kernel_rfl)) ?_
  refine va rfl rfl rfl (q_len_slice rfl Try.underlying22 rfl) ?_
  refine va rfl rfl rfl (q_lss rfl rfl rfl) ?_
  refine va rfl rfl rfl (q_move (v := .bool (decide (((members.length : Nat) : Int) < 1))) rfl (by kernel_rfl)) ?_
  refine vg0 rfl rfl rfl rfl rfl (fun hg1 => QV.qo (q_move (v := .slice Amembers members.length cmembers) rfl (by kernel_rfl))) ?_
  refine vg0 rfl rfl rfl rfl rfl (fun hg2 => QV.qo (q_len_slice rfl Try.underlying22 (gu hg2 rfl))) ?_
  refine vg0 rfl rfl rfl rfl rfl (fun hg3 => QV.qo (q_gtr rfl (gu hg3 rfl) rfl)) ?_
  refine va rfl rfl rfl (q_pick rfl rfl (pk_or' (g := (decide (((members.length : Nat) : Int) < 1))) (y := (decide (8 < ((members.length : Nat) : Int)))))) ?_
  refine WR.nil ?_
  change WC _ _ _ _ _ _
  refine WC.cif h (by kernel_rfl) (fun hb4 h => ?_) (fun hb4 h => ?_)
  · skip
    refine WC.rs ?_
    refine va rfl rfl rfl (q_assign (v := .bool false) rfl (by kernel_rfl)) ?_
    refine WR.nil ?_
    change WC _ _ _ _ _ _
    refine WC.ret ?_
    intro w hw
    obtain rfl := Option.some.inj h
    subst hF
    exact ⟨by kernel_rfl, hw.fr⟩
  · skip
    refine WC.skip ?_
    change WC _ _ _ _ _ _
    refine WC.seq ?_
    refine WC.rs ?_
    refine va rfl rfl rfl (q_assign (v := .int .i64 0) rfl (by kernel_rfl)) ?_
    refine WR.nil ?_
    change WC _ _ _ _ _ _
    refine WC.block ?_
    refine WC.forI h (fun (i6 : Nat) (s : Unit) σ w => match s with | () => slots σ [(0, .slice Amembers members.length cmembers), (3, .int .i64 ((i6 : Nat) : Int))] ∧ CC F Γ [] w ∧ True) ?_ ?_
    · skip
      intro w hw
      exact ⟨(sl_ (by kernel_rfl)), hw, trivial⟩
    rintro f5 i6 ⟨⟩ σ w hi7 hlt8 hge9 ⟨hsl, hw, -⟩
    refine Wpt.slots hsl ?_
    refine WC.here (C := CC F Γ []) ?_ hw
    clear hw hsl
    refine WC.seq ?_
    refine WC.rs ?_
    refine va rfl rfl rfl (q_move (v := .int .i64 ((i6 : Nat) : Int)) rfl (by kernel_rfl)) ?_
    refine va rfl rfl rfl (q_move (v := .slice Amembers members.length cmembers) rfl (by kernel_rfl)) ?_
    refine va rfl rfl rfl (q_len_slice rfl Try.underlying22 rfl) ?_
    refine va rfl rfl rfl (q_lss rfl rfl rfl) ?_
    refine WR.nil ?_
    change WC _ _ _ _ _ _
    refine WC.cond (b := (decide (((i6 : Nat) : Int) < ((members.length : Nat) : Int)))) (by kernel_rfl) (fun hb10 => ?_) (fun hb10 => ?_)
    · skip
      have hl11 := ilt hb10
      have h := hlt8 hl11
      refine WC.skip ?_
      change WC _ _ _ _ _ _
      refine WC.seq ?_
      refine WC.block ?_
      refine WC.seq ?_
      refine WC.rs ?_
      refine va rfl rfl rfl (q_move (v := .slice Amembers members.length cmembers) rfl (by kernel_rfl)) ?_
      refine va rfl rfl rfl (q_move (v := .int .i64 ((i6 : Nat) : Int)) rfl (by kernel_rfl)) ?_
      refine va rfl rfl rfl (q_ixn (i := i6) Try.underlying22 Try.sizeOf3 rfl rfl rfl hl11 (hmembers.some_ hl11)) ?_
      refine va rfl rfl rfl (q_ld (c := 0) (v := .int .i64 (gt members i6)) (hmembers.intT_at hl11).2 rfl Try.isAgg3 rfl rfl) ?_
      refine va rfl rfl rfl (q_lss rfl rfl rfl) ?_
      refine va rfl rfl rfl (q_move (v := .bool (decide ((gt members i6) < 1))) rfl (by kernel_rfl)) ?_
      refine vg0 rfl rfl rfl rfl rfl (fun hg12 => QV.qo (q_move (v := .slice Amembers members.length cmembers) rfl (by kernel_rfl))) ?_
      refine vg0 rfl rfl rfl rfl rfl (fun hg13 => QV.qo (q_move (v := .int .i64 ((i6 : Nat) : Int)) rfl (by kernel_rfl))) ?_
      refine vg0 rfl rfl rfl rfl rfl (fun hg14 => QV.qo (q_ixn (i := i6) Try.underlying22 Try.sizeOf3 rfl (gu hg14 rfl) (gu hg14 rfl) hl11 (hmembers.some_ hl11))) ?_
      refine vg0 rfl rfl rfl rfl rfl (fun hg15 => QV.qo (q_ld (c := 0) (v := .int .i64 (gt members i6)) (hmembers.intT_at hl11).2 rfl Try.isAgg3 (gu hg15 rfl) rfl)) ?_
      refine vg0 rfl rfl rfl rfl rfl (fun hg16 => QV.qo (q_gtr rfl (gu hg16 rfl) rfl)) ?_
      refine va rfl rfl rfl (q_pick rfl rfl (pk_or' (g := (decide ((gt members i6) < 1))) (y := (decide (8 < (gt members i6)))))) ?_
      refine WR.nil ?_
      change WC _ _ _ _ _ _
      refine WC.cif h (by kernel_rfl) (fun hb17 h => ?_) (fun hb17 h => ?_)
      · skip
        refine WC.rs ?_
        refine va rfl rfl rfl (q_assign (v := .bool false) rfl (by kernel_rfl)) ?_
        refine WR.nil ?_
        change WC _ _ _ _ _ _
        refine WC.ret ?_
        intro w hw
        obtain rfl := Option.some.inj h
        subst hF
        exact ⟨by kernel_rfl, hw.fr⟩
      · skip
        refine WC.skip ?_
        change WC _ _ _ _ _ _
        refine WC.seq ?_
        refine WC.dr (by kernel_rfl) (by kernel_rfl) (fun w hw => hw.drawn _) ?_
        refine wa rfl rfl rfl (q_move (v := .int .i64 ((i6 : Nat) : Int)) rfl (by kernel_rfl)) ?_
        refine wa rfl rfl rfl (q_gtr rfl rfl rfl) ?_
        refine wa rfl rfl rfl (q_move (v := .bool (decide (0 < ((i6 : Nat) : Int)))) rfl (by kernel_rfl)) ?_
        refine wg1 rfl rfl rfl rfl rfl (fun hg18 => QV.qo (q_move (v := .slice Amembers members.length cmembers) rfl (by kernel_rfl))) ?_
        refine wg1 rfl rfl rfl rfl rfl (fun hg19 => QV.qo (q_move (v := .int .i64 ((i6 : Nat) : Int)) rfl (by kernel_rfl))) ?_
        refine wg1 rfl rfl rfl rfl rfl (fun hg20 => QV.qo (q_ixn (i := i6) Try.underlying22 Try.sizeOf3 rfl (gu hg20 rfl) (gu hg20 rfl) hl11 (hmembers.some_ hl11))) ?_
        refine wg1 rfl rfl rfl rfl rfl (fun hg21 => QV.qo (q_ld (c := 0) (v := .int .i64 (gt members i6)) (hmembers.intT_at hl11).2 rfl Try.isAgg3 (gu hg21 rfl) rfl)) ?_
        refine wg1 rfl rfl rfl rfl rfl (fun hg22 => QV.qo (q_move (v := .slice Amembers members.length cmembers) rfl (by kernel_rfl))) ?_
        refine wg1 rfl rfl rfl rfl rfl (fun hg23 => QV.qo (q_move (v := .int .i64 ((i6 : Nat) : Int)) rfl (by kernel_rfl))) ?_
        refine wg1 rfl rfl rfl rfl rfl (fun hg24 => QV.qo (q_sub rfl (gu hg24 rfl) rfl)) ?_
        obtain ⟨hk26, h⟩ := chk_some h
        refine wg1 rfl rfl rfl rfl rfl (fun hg25 => QV.qo (q_ix Try.underlying22 Try.sizeOf3 rfl (gu hg25 rfl) (gu hg25 rfl) (imp_of hk26 hg25) (hmembers.some_ (inb_lt (imp_of hk26 hg25))))) ?_
        refine wg1 rfl rfl rfl rfl rfl (fun hg27 => QV.qo (q_ld (c := 0) (v := .int .i64 (gt members ((w64 (((i6 : Nat) : Int) - 1)).toNat))) (hmembers.intT_at (inb_lt (imp_of hk26 hg27))).2 rfl Try.isAgg3 (gu hg27 rfl) rfl)) ?_
        refine wg1 rfl rfl rfl rfl rfl (fun hg28 => QV.qo (q_leq rfl (gu hg28 rfl) (gu hg28 rfl))) ?_
        refine wa rfl rfl rfl (q_pick rfl rfl (pk_and' (g := (decide (0 < ((i6 : Nat) : Int)))) (y := (decide ((gt members i6) ≤ (gt members ((w64 (((i6 : Nat) : Int) - 1)).toNat))))))) ?_
        refine WQ.nil ?_
        change WC _ _ _ _ _ _
        refine WC.cif h (by kernel_rfl) (fun hb29 h => ?_) (fun hb29 h => ?_)
        · skip
          refine WC.rs ?_
          refine va rfl rfl rfl (q_assign (v := .bool false) rfl (by kernel_rfl)) ?_
          refine WR.nil ?_
          change WC _ _ _ _ _ _
          refine WC.ret ?_
          intro w hw
          obtain rfl := Option.some.inj h
          subst hF
          exact ⟨by kernel_rfl, hw.fr⟩
        · skip
          refine WC.skip ?_
          change WC _ _ _ _ _ _
          refine WC.region ?_
          refine va rfl rfl rfl (q_move (v := .int .i64 ((i6 : Nat) : Int)) rfl (by kernel_rfl)) ?_
          refine va rfl rfl rfl (q_add_r (r := ((i6 + 1 : Nat) : Int)) rfl rfl rfl (ctr_len hl11 hmembers.le)) ?_
          refine va rfl rfl rfl (q_assign (v := .int .i64 ((i6 + 1 : Nat) : Int)) rfl (by kernel_rfl)) ?_
          refine WR.nil ?_
          intro w hw
          exact ⟨hl11, (), h, (sl_ (by kernel_rfl)), hw, trivial⟩
    · skip
      have h := hge9 (ige hb10)
      refine WC.exit ?_
      change WC _ _ _ _ _ _
      refine WC.rs ?_
      refine va rfl rfl rfl (q_assign (v := .bool true) rfl (by kernel_rfl)) ?_
      refine WR.nil ?_
      change WC _ _ _ _ _ _
      refine WC.ret ?_
      intro w hw
      obtain rfl := Option.some.inj h
      subst hF
      exact ⟨by kernel_rfl, hw.fr⟩
set_option maxRecDepth 100000 in
set_option maxHeartbeats 400000 in
theorem t_firthref01_Hash {Γ : Gh} {w0 : World} {Ab : Option Addr} {cb : Nat} {b : List UInt8} (hb : Sl byteT Γ Ab b) (hbc : b.length ≤ cb) (hs : Sat Γ w0) {r : Int} (h : m_firthref01_Hash b = some r) : Calls Try.prog 25 #[.slice Ab b.length cb] w0 (fun e w' => e = .returned (.int .u64 r) ∧ Fr no w0 w') := by
  refine calls_of (N := 30) (rs := [2]) (args := [.slice Ab b.length cb]) Try.func25 rfl Try.ntmps25 Try.results25 rfl ?_
  obtain ⟨F, hF⟩ : ∃ F : Fm, F = ⟨no, w0, Γ⟩ := ⟨_, rfl⟩
  refine WC.here (C := CC F Γ []) ?_ (hF ▸ Cur.start0 hs)
  refine WC.rs ?_
  refine va rfl rfl rfl (q_assign (v := .int .u64 0) rfl (by kernel_rfl)) ?_
  refine WR.nil ?_
  change WC _ _ _ _ _ _
  refine WC.rs ?_
  refine va rfl rfl rfl (q_assign (v := .int .u64 14695981039346656037) rfl (by kernel_rfl)) ?_
  refine WR.nil ?_
  change WC _ _ _ _ _ _
  refine WC.seq ?_
  refine WC.rs ?_
  refine va rfl rfl rfl (q_assign (v := .int .i64 0) rfl (by kernel_rfl)) ?_
  refine WR.nil ?_
  change WC _ _ _ _ _ _
  refine WC.block ?_
  refine WC.forI h (fun (i4 : Nat) (h_1 : Int) σ w => slots σ [(0, .slice Ab b.length cb), (3, .int .u64 h_1), (4, .int .i64 ((i4 : Nat) : Int))] ∧ CC F Γ [] w ∧ U64 h_1 ∧ True) ?_ ?_
  · skip
    intro w hw
    exact ⟨(sl_ (by kernel_rfl)), hw, (show U64 14695981039346656037 by decide), trivial⟩
  rintro f3 i4 h_1 σ w hi5 hlt6 hge7 ⟨hsl, hw, hr2, -⟩
  refine Wpt.slots hsl ?_
  refine WC.here (C := CC F Γ []) ?_ hw
  clear hw hsl
  refine WC.seq ?_
  refine WC.rs ?_
  refine va rfl rfl rfl (q_move (v := .int .i64 ((i4 : Nat) : Int)) rfl (by kernel_rfl)) ?_
  refine va rfl rfl rfl (q_move (v := .slice Ab b.length cb) rfl (by kernel_rfl)) ?_
  refine va rfl rfl rfl (q_len_slice rfl Try.underlying41 rfl) ?_
  refine va rfl rfl rfl (q_lss rfl rfl rfl) ?_
  refine WR.nil ?_
  change WC _ _ _ _ _ _
  refine WC.cond (b := (decide (((i4 : Nat) : Int) < ((b.length : Nat) : Int)))) (by kernel_rfl) (fun hb8 => ?_) (fun hb8 => ?_)
  · skip
    have hl9 := ilt hb8
    have h := hlt6 hl9
    refine WC.skip ?_
    change WC _ _ _ _ _ _
    refine WC.seq ?_
    refine WC.block ?_
    refine WC.rs ?_
    refine va rfl rfl rfl (q_move (v := .int .u64 h_1) rfl (by kernel_rfl)) ?_
    refine va rfl rfl rfl (q_move (v := .slice Ab b.length cb) rfl (by kernel_rfl)) ?_
    refine va rfl rfl rfl (q_move (v := .int .i64 ((i4 : Nat) : Int)) rfl (by kernel_rfl)) ?_
    refine va rfl rfl rfl (q_ixn (i := i4) Try.underlying41 Try.sizeOf5 rfl rfl rfl hl9 (hb.some_ hl9)) ?_
    refine va rfl rfl rfl (q_ld (c := 0) (v := .int .u8 (((gt b i4).toNat : Nat) : Int)) (hb.byteT_at hl9).2 rfl Try.isAgg5 rfl rfl) ?_
    refine va rfl rfl rfl (q_conv Try.underlying39 Try.underlying5 rfl rfl) ?_
    refine va rfl rfl rfl (q_xor rfl rfl rfl) ?_
    refine va rfl rfl rfl (q_assign (v := .int .u64 (ixor .u64 h_1 (wu64 (((gt b i4).toNat : Nat) : Int)))) rfl (by kernel_rfl)) ?_
    refine WR.nil ?_
    change WC _ _ _ _ _ _
    refine WC.region ?_
    refine va rfl rfl rfl (q_move (v := .int .u64 (ixor .u64 h_1 (wu64 (((gt b i4).toNat : Nat) : Int)))) rfl (by kernel_rfl)) ?_
    refine va rfl rfl rfl (q_mul rfl rfl rfl) ?_
    refine va rfl rfl rfl (q_assign (v := .int .u64 (wu64 ((ixor .u64 h_1 (wu64 (((gt b i4).toNat : Nat) : Int))) * 1099511628211))) rfl (by kernel_rfl)) ?_
    refine WR.nil ?_
    change WC _ _ _ _ _ _
    refine WC.region ?_
    refine va rfl rfl rfl (q_move (v := .int .i64 ((i4 : Nat) : Int)) rfl (by kernel_rfl)) ?_
    refine va rfl rfl rfl (q_add_r (r := ((i4 + 1 : Nat) : Int)) rfl rfl rfl (ctr_len hl9 hb.le)) ?_
    refine va rfl rfl rfl (q_assign (v := .int .i64 ((i4 + 1 : Nat) : Int)) rfl (by kernel_rfl)) ?_
    refine WR.nil ?_
    intro w hw
    exact ⟨hl9, (wu64 ((ixor .u64 h_1 (wu64 (((gt b i4).toNat : Nat) : Int))) * 1099511628211)), h, (sl_ (by kernel_rfl)), hw, (wu64_r _), trivial⟩
  · skip
    have h := hge7 (ige hb8)
    refine WC.exit ?_
    change WC _ _ _ _ _ _
    refine WC.rs ?_
    refine va rfl rfl rfl (q_move (v := .int .u64 h_1) rfl (by kernel_rfl)) ?_
    refine va rfl rfl rfl (q_move (v := .int .u64 h_1) rfl (by kernel_rfl)) ?_
    refine va rfl rfl rfl (q_quo rfl rfl rfl (by decide)) ?_
    refine va rfl rfl rfl (q_xor rfl rfl rfl) ?_
    refine va rfl rfl rfl (q_assign (v := .int .u64 (ixor .u64 h_1 (wu64 (h_1.tdiv 8589934592)))) rfl (by kernel_rfl)) ?_
    refine WR.nil ?_
    change WC _ _ _ _ _ _
    refine WC.rs ?_
    refine va rfl rfl rfl (q_move (v := .int .u64 (ixor .u64 h_1 (wu64 (h_1.tdiv 8589934592)))) rfl (by kernel_rfl)) ?_
    refine va rfl rfl rfl (q_mul rfl rfl rfl) ?_
    refine va rfl rfl rfl (q_assign (v := .int .u64 (wu64 ((ixor .u64 h_1 (wu64 (h_1.tdiv 8589934592))) * 18397679294719823053))) rfl (by kernel_rfl)) ?_
    refine WR.nil ?_
    change WC _ _ _ _ _ _
    refine WC.rs ?_
    refine va rfl rfl rfl (q_move (v := .int .u64 (wu64 ((ixor .u64 h_1 (wu64 (h_1.tdiv 8589934592))) * 18397679294719823053))) rfl (by kernel_rfl)) ?_
    refine va rfl rfl rfl (q_move (v := .int .u64 (wu64 ((ixor .u64 h_1 (wu64 (h_1.tdiv 8589934592))) * 18397679294719823053))) rfl (by kernel_rfl)) ?_
    refine va rfl rfl rfl (q_quo rfl rfl rfl (by decide)) ?_
    refine va rfl rfl rfl (q_xor rfl rfl rfl) ?_
    refine va rfl rfl rfl (q_assign (v := .int .u64 (ixor .u64 (wu64 ((ixor .u64 h_1 (wu64 (h_1.tdiv 8589934592))) * 18397679294719823053)) (wu64 ((wu64 ((ixor .u64 h_1 (wu64 (h_1.tdiv 8589934592))) * 18397679294719823053)).tdiv 8589934592)))) rfl (by kernel_rfl)) ?_
    refine WR.nil ?_
    change WC _ _ _ _ _ _
    refine WC.ret ?_
    intro w hw
    obtain rfl := Option.some.inj h
    subst hF
    exact ⟨by kernel_rfl, hw.fr⟩
set_option maxRecDepth 100000 in
set_option maxHeartbeats 400000 in
theorem t_firthref12_first {Γ : Gh} {w0 : World} (member : Int) (hmember : I64 member) (from_ : Int) (hfrom_ : U64 from_) (hs : Sat Γ w0) {r : Int} (h : m_firthref12_first member from_ = some r) : Calls Try.prog 38 #[.int .i64 member, .int .u64 from_] w0 (fun e w' => e = .returned (.int .u64 r) ∧ Fr no w0 w') := by
  refine calls_of (N := 25) (rs := [4]) (args := [.int .i64 member, .int .u64 from_]) Try.func38 rfl Try.ntmps38 Try.results38 rfl ?_
  obtain ⟨F, hF⟩ : ∃ F : Fm, F = ⟨no, w0, Γ⟩ := ⟨_, rfl⟩
  refine WC.here (C := CC F Γ []) ?_ (hF ▸ Cur.start0 hs)
  refine WC.rs ?_
  refine va rfl rfl rfl (q_assign (v := .int .u64 0) rfl (by kernel_rfl)) ?_
  refine WR.nil ?_
  change WC _ _ _ _ _ _
  refine WC.rs ?_
  refine va rfl rfl rfl (q_assign (v := .int .u64 18446744073709551615) rfl (by kernel_rfl)) ?_
  refine WR.nil ?_
  change WC _ _ _ _ _ _
  refine WC.seq ?_
  refine WC.rs ?_
  refine va rfl rfl rfl (q_assign (v := .int .i64 0) rfl (by kernel_rfl)) ?_
  refine WR.nil ?_
  change WC _ _ _ _ _ _
  refine WC.block ?_
  refine WC.forU h (fun (i4 : Nat) (best_1 : Int) σ w => slots σ [(0, .int .i64 member), (1, .int .u64 from_), (5, .int .u64 best_1), (6, .int .i64 ((i4 : Nat) : Int))] ∧ CC F Γ [] w ∧ U64 best_1 ∧ True) ?_ ?_
  · skip
    intro w hw
    exact ⟨(sl_ (by kernel_rfl)), hw, (show U64 18446744073709551615 by decide), trivial⟩
  rintro f3 i4 best_1 σ w hi5 hlt6 hge7 ⟨hsl, hw, hr2, -⟩
  refine Wpt.slots hsl ?_
  refine WC.here (C := CC F Γ []) ?_ hw
  clear hw hsl
  refine WC.seq ?_
  refine WC.rs ?_
  refine va rfl rfl rfl (q_move (v := .int .i64 ((i4 : Nat) : Int)) rfl (by kernel_rfl)) ?_
  refine va rfl rfl rfl (q_lss rfl rfl rfl) ?_
  refine WR.nil ?_
  change WC _ _ _ _ _ _
  refine WC.cond (b := (decide (((i4 : Nat) : Int) < 4))) (by kernel_rfl) (fun hb8 => ?_) (fun hb8 => ?_)
  · skip
    have hl9 := ilt hb8
    have h := hlt6 hl9
    refine WC.skip ?_
    change WC _ _ _ _ _ _
    refine WC.cut (fun σ w => ∃ (best_10 : Int), m_firthref12_first_j5 f3 best_10 = some r ∧ slots σ [(0, .int .i64 member), (1, .int .u64 from_), (5, .int .u64 best_10), (6, .int .i64 ((i4 : Nat) : Int))] ∧ CC F Γ [] w ∧ U64 best_10 ∧ True) ?_ ?_
    · skip
      refine WC.block ?_
      refine WC.rs ?_
      refine va rfl rfl rfl (q_move (v := .int .i64 member) rfl (by kernel_rfl)) ?_
      refine va rfl rfl rfl (q_conv Try.underlying5 Try.underlying3 rfl rfl) ?_
      refine va rfl rfl rfl (q_move (v := .int .i64 ((i4 : Nat) : Int)) rfl (by kernel_rfl)) ?_
      refine va rfl rfl rfl (q_conv Try.underlying5 Try.underlying3 rfl rfl) ?_
      refine e_buildSlice (cs := #[.int .u8 (wu8 member), .int .u8 (wu8 ((i4 : Nat) : Int))]) (e := 5) rfl rfl rfl rfl (fun w => by kernel_rfl) ?_
      intro g12
      have ho13 : Own byteT Γ 5 [(g12, .cells #[.int .u8 (wu8 member), .int .u8 (wu8 ((i4 : Nat) : Int))] 5 (0, 0))] (some ⟨g12, 0, none⟩) 2 [(b8 (wu8 member)), (b8 (wu8 ((i4 : Nat) : Int)))] := Own.of_block (T := byteT) (ys := [(b8 (wu8 member)), (b8 (wu8 ((i4 : Nat) : Int)))]) [[.int .u8 (wu8 member)], [.int .u8 (wu8 ((i4 : Nat) : Int))]] rfl rfl (show 2 ≤ lim by decide) (fun i h => match i, h with | 0, _ => (show Ty.rd byteT Γ [.int .u8 (wu8 member)] (b8 (wu8 member)) from (by show [Value.int .u8 (wu8 member)] = [Value.int .u8 _]; rw [b8_val (wu8_r _)])) | 1, _ => (show Ty.rd byteT Γ [.int .u8 (wu8 ((i4 : Nat) : Int))] (b8 (wu8 ((i4 : Nat) : Int))) from (by show [Value.int .u8 (wu8 ((i4 : Nat) : Int))] = [Value.int .u8 _]; rw [b8_val (wu8_r _)])))
      obtain ⟨z14, hz15, h⟩ := bnd h
      refine vc rfl rfl rfl (q_call (call_run Try.call25 rfl rfl (by kernel_rfl)) (fun w hw => t_firthref01_Hash (Γ := Gh.all w) (ho13.sl hw.sat.le_all (hw.ra 0 rfl)) ho13.capz (Sat.all w) hz15)) ?_
      refine va rfl rfl rfl (q_move (v := .int .u64 from_) rfl (by kernel_rfl)) ?_
      refine va rfl rfl rfl (q_sub rfl rfl rfl) ?_
      refine va rfl rfl rfl (q_assign (v := .int .u64 (wu64 (z14 - from_))) rfl (by kernel_rfl)) ?_
      refine WR.nil ?_
      change WC _ _ _ _ _ _
      refine WC.rs ?_
      refine va rfl rfl rfl (q_move (v := .int .u64 (wu64 (z14 - from_))) rfl (by kernel_rfl)) ?_
      refine va rfl rfl rfl (q_move (v := .int .u64 best_1) rfl (by kernel_rfl)) ?_
      refine va rfl rfl rfl (q_lss rfl rfl rfl) ?_
      refine WR.nil ?_
      change WC _ _ _ _ _ _
      refine WC.cif h (by kernel_rfl) (fun hb16 h => ?_) (fun hb16 h => ?_)
      · skip
        refine WC.region ?_
        refine va rfl rfl rfl (q_move (v := .int .u64 (wu64 (z14 - from_))) rfl (by kernel_rfl)) ?_
        refine va rfl rfl rfl (q_assign (v := .int .u64 (wu64 (z14 - from_))) rfl (by kernel_rfl)) ?_
        refine WR.nil ?_
        intro w hw
        exact ⟨(wu64 (z14 - from_)), h, (sl_ (by kernel_rfl)), (hw.only (is := []) rfl), (wu64_r _), trivial⟩
      · skip
        refine WC.skip ?_
        intro w hw
        exact ⟨best_1, h, (sl_ (by kernel_rfl)), (hw.only (is := []) rfl), hr2, trivial⟩
    · skip
      rintro σ w ⟨best_10, h, hsl, hw, hr11, -⟩
      refine Wpt.slots hsl ?_
      refine WC.here (C := CC F Γ []) ?_ hw
      clear hw hsl
      refine WC.region ?_
      refine va rfl rfl rfl (q_move (v := .int .i64 ((i4 : Nat) : Int)) rfl (by kernel_rfl)) ?_
      refine va rfl rfl rfl (q_add_r (r := ((i4 + 1 : Nat) : Int)) rfl rfl rfl (ctr_lit hl9 (by decide))) ?_
      refine va rfl rfl rfl (q_assign (v := .int .i64 ((i4 + 1 : Nat) : Int)) rfl (by kernel_rfl)) ?_
      refine WR.nil ?_
      intro w hw
      exact ⟨hl9, best_10, h, (sl_ (by kernel_rfl)), hw, hr11, trivial⟩
  · skip
    have h := hge7 (ige hb8)
    refine WC.exit ?_
    change WC _ _ _ _ _ _
    refine WC.rs ?_
    refine va rfl rfl rfl (q_move (v := .int .u64 best_1) rfl (by kernel_rfl)) ?_
    refine va rfl rfl rfl (q_assign (v := .int .u64 best_1) rfl (by kernel_rfl)) ?_
    refine WR.nil ?_
    change WC _ _ _ _ _ _
    refine WC.ret ?_
    intro w hw
    obtain rfl := Option.some.inj h
    subst hF
    exact ⟨by kernel_rfl, hw.fr⟩
abbrev r_firthref12_Order (r : List Int) (U : List Rowb) (Γ : Gh) (v : Value) : Prop := ∃ (A0 : Option Addr), ∃ (c0 : Nat), ∃ (row0 : Rowb), v = .slice A0 r.length c0 ∧ U = [row0] ∧ Own intT Γ 3 row0 A0 c0 r ∧ True
set_option maxRecDepth 100000 in
set_option maxHeartbeats 400000 in
theorem t_firthref12_Order {Γ : Gh} {w0 : World} {Amembers : Option Addr} {cmembers : Nat} {members : List Int} (hmembers : Sl intT Γ Amembers members) (hmembersc : members.length ≤ cmembers) (part : Int) (hpart : I64 part) (hp : Pre [] Γ w0) {r : List Int} (h : m_firthref12_Order members part = some r) : Calls Try.prog 26 #[.slice Amembers members.length cmembers, .int .i64 part] w0 (Outc Γ [] w0 (r_firthref12_Order r)) := by
  refine calls_of (N := 70) (rs := [4]) (args := [.slice Amembers members.length cmembers, .int .i64 part]) Try.func26 rfl Try.ntmps26 Try.results26 rfl ?_
  obtain ⟨F, hF⟩ : ∃ F : Fm, F = ⟨ids [], w0, Γ⟩ := ⟨_, rfl⟩
  refine WC.here (C := CC F Γ []) ?_ (hF ▸ hp.start)
  refine WC.rs ?_
  refine va rfl rfl rfl (q_assign (v := .slice none 0 0) rfl (by kernel_rfl)) ?_
  refine WR.nil ?_
  change WC _ _ _ _ _ _
  refine WC.rs ?_
  refine va rfl rfl rfl (q_assign (v := .slice none 0 0) rfl (by kernel_rfl)) ?_
  refine WR.nil ?_
  change WC _ _ _ _ _ _
  refine WC.seq ?_
  refine WC.rs ?_
  refine va rfl rfl rfl (q_move (v := .slice Amembers members.length cmembers) rfl (by kernel_rfl)) ?_
  obtain ⟨z1, hz2, h⟩ := bnd h
  refine vc rfl rfl rfl (q_call (call_run Try.call10 rfl rfl (by kernel_rfl)) (fun w hw => t_firthref12_Right (Γ := Gh.all w) (hmembers.mono hw.sat.le_all) hmembersc (Sat.all w) hz2)) ?_
  refine va rfl rfl rfl (q_not rfl rfl) ?_
  refine va rfl rfl rfl (q_move (v := .bool (!z1)) rfl (by kernel_rfl)) ?_
  refine vg0 rfl rfl rfl rfl rfl (fun hg3 => QV.qo (q_move (v := .int .i64 part) rfl (by kernel_rfl))) ?_
  refine vg0 rfl rfl rfl rfl rfl (fun hg4 => QV.qo (q_lss rfl (gu hg4 rfl) rfl)) ?_
  refine va rfl rfl rfl (q_pick rfl rfl (pk_or' (g := (!z1)) (y := (decide (part < 0))))) ?_
  refine va rfl rfl rfl (q_move (v := .bool ((!z1) || (decide (part < 0)))) rfl (by kernel_rfl)) ?_
  refine vg0 rfl rfl rfl rfl rfl (fun hg5 => QV.qo (q_move (v := .int .i64 part) rfl (by kernel_rfl))) ?_
  refine vg0 rfl rfl rfl rfl rfl (fun hg6 => QV.qo (q_geq rfl (gu hg6 rfl) rfl)) ?_
  refine va rfl rfl rfl (q_pick rfl rfl (pk_or' (g := ((!z1) || (decide (part < 0)))) (y := (decide (8 ≤ part))))) ?_
  refine WR.nil ?_
  change WC _ _ _ _ _ _
  refine WC.cif h (by kernel_rfl) (fun hb7 h => ?_) (fun hb7 h => ?_)
  · skip
    refine WC.rs ?_
    refine va rfl rfl rfl (q_move (v := .slice none 0 0) rfl (by kernel_rfl)) ?_
    refine va rfl rfl rfl (q_assign (v := .slice none 0 0) rfl (by kernel_rfl)) ?_
    refine WR.nil ?_
    change WC _ _ _ _ _ _
    refine WC.ret ?_
    intro w hw
    have hw := hw.pad
    obtain rfl := Option.some.inj h
    subst hF
    exact end_e (is := [0]) (by kernel_rfl) hw rfl ⟨none, 0, [], rfl, rfl, (Own.nil intT _ 3), trivial⟩
  · skip
    refine WC.skip ?_
    change WC _ _ _ _ _ _
    refine WC.rs ?_
    refine va rfl rfl rfl (q_move (v := .int .i64 part) rfl (by kernel_rfl)) ?_
    refine va rfl rfl rfl (q_conv Try.underlying5 Try.underlying3 rfl rfl) ?_
    refine e_buildSlice (cs := #[.int .u8 255, .int .u8 (wu8 part)]) (e := 5) rfl rfl rfl rfl (fun w => by kernel_rfl) ?_
    intro g8
    have ho9 : Own byteT Γ 5 [(g8, .cells #[.int .u8 255, .int .u8 (wu8 part)] 5 (0, 0))] (some ⟨g8, 0, none⟩) 2 [(b8 255), (b8 (wu8 part))] := Own.of_block (T := byteT) (ys := [(b8 255), (b8 (wu8 part))]) [[.int .u8 255], [.int .u8 (wu8 part)]] rfl rfl (show 2 ≤ lim by decide) (fun i h => match i, h with | 0, _ => (show Ty.rd byteT Γ [.int .u8 255] (b8 255) from (by show [Value.int .u8 255] = [Value.int .u8 _]; rw [b8_val (by decide)])) | 1, _ => (show Ty.rd byteT Γ [.int .u8 (wu8 part)] (b8 (wu8 part)) from (by show [Value.int .u8 (wu8 part)] = [Value.int .u8 _]; rw [b8_val (wu8_r _)])))
    obtain ⟨z10, hz11, h⟩ := bnd h
    refine vc rfl rfl rfl (q_call (call_run Try.call25 rfl rfl (by kernel_rfl)) (fun w hw => t_firthref01_Hash (Γ := Gh.all w) (ho9.sl hw.sat.le_all (hw.ra 0 rfl)) ho9.capz (Sat.all w) hz11)) ?_
    refine va rfl rfl rfl (q_assign (v := .int .u64 z10) rfl (by kernel_rfl)) ?_
    refine WR.nil ?_
    change WC _ _ _ _ _ _
    refine WC.rs ?_
    obtain ⟨hk12, h⟩ := chk_some h
    refine e_makeSlice (T := boolT) (n := 9) (zx := false) (ti := Try.t4) (z := .bool false) Try.underlying56 (by kernel_rfl) (by kernel_rfl) (by kernel_rfl) (by exact rfl) (by decide) (of_decide_eq_true hk12) rfl rfl rfl rfl rfl rfl ?_
    intro g13 row14 ho15
    refine va rfl rfl rfl (q_assign (v := .slice (some ⟨g13, 0, none⟩) 9 9) rfl (by kernel_rfl)) ?_
    refine WR.nil ?_
    change WC _ _ _ _ _ _
    refine WC.seq ?_
    refine WC.block ?_
    refine WC.loopN h (fun (s : (List Int) × (List Bool)) σ w => match s with | (out_16, x21) => ∃ (A17 : Option Addr), ∃ (c18 : Nat), ∃ (row19 : Rowb), ∃ (row22 : Rowb), slots σ [(0, .slice Amembers members.length cmembers), (5, .slice A17 out_16.length c18), (6, .int .u64 z10), (7, .slice (some ⟨g13, 0, none⟩) 9 9)] ∧ CC F Γ [row19, row22] w ∧ Own intT Γ 3 row19 A17 c18 out_16 ∧ x21.length = 9 ∧ Own boolT Γ 4 row22 (some ⟨g13, 0, none⟩) 9 x21 ∧ True) ?_ ?_
    · skip
      intro w hw
      have hw := hw.pad
      exact ⟨none, 0, [], row14, (sl_ (by kernel_rfl)), (hw.only (is := [0, 0]) rfl), (Own.nil intT _ 3), List.length_replicate, ho15, trivial⟩
    rintro f25 ⟨out_16, x21⟩ σ w h ⟨A17, c18, row19, row22, hsl, hw, ho20, hn24, ho23, -⟩
    refine Wpt.slots hsl ?_
    refine WC.here (C := CC F Γ [row19, row22]) ?_ hw
    clear hw hsl
    refine WC.seq ?_
    refine WC.rs ?_
    refine va rfl rfl rfl (q_move (v := .slice A17 out_16.length c18) rfl (by kernel_rfl)) ?_
    refine va rfl rfl rfl (q_len_slice rfl Try.underlying22 rfl) ?_
    refine va rfl rfl rfl (q_move (v := .slice Amembers members.length cmembers) rfl (by kernel_rfl)) ?_
    refine va rfl rfl rfl (q_len_slice rfl Try.underlying22 rfl) ?_
    refine va rfl rfl rfl (q_lss rfl rfl rfl) ?_
    refine WR.nil ?_
    change WC _ _ _ _ _ _
    refine WC.cif h (by kernel_rfl) (fun hb29 h => ?_) (fun hb29 h => ?_)
    · skip
      refine WC.skip ?_
      change WC _ _ _ _ _ _
      refine WC.block ?_
      refine WC.rs ?_
      refine va rfl rfl rfl (q_assign (v := .int .i64 0) rfl (by kernel_rfl)) ?_
      refine WR.nil ?_
      change WC _ _ _ _ _ _
      refine WC.seq ?_
      refine WC.rs ?_
      refine va rfl rfl rfl (q_assign (v := .int .i64 0) rfl (by kernel_rfl)) ?_
      refine WR.nil ?_
      change WC _ _ _ _ _ _
      refine WC.block ?_
      refine WC.forI h (fun (i33 : Nat) (best_30 : Int) σ w => slots σ [(0, .slice Amembers members.length cmembers), (5, .slice A17 out_16.length c18), (6, .int .u64 z10), (7, .slice (some ⟨g13, 0, none⟩) 9 9), (8, .int .i64 best_30), (9, .int .i64 ((i33 : Nat) : Int))] ∧ CC F Γ [row19, row22] w ∧ I64 best_30 ∧ True) ?_ ?_
      · skip
        intro w hw
        exact ⟨(sl_ (by kernel_rfl)), hw, (show I64 0 by decide), trivial⟩
      rintro f32 i33 best_30 σ w hi34 hlt35 hge36 ⟨hsl, hw, hr31, -⟩
      refine Wpt.slots hsl ?_
      refine WC.here (C := CC F Γ [row19, row22]) ?_ hw
      clear hw hsl
      refine WC.seq ?_
      refine WC.rs ?_
      refine va rfl rfl rfl (q_move (v := .int .i64 ((i33 : Nat) : Int)) rfl (by kernel_rfl)) ?_
      refine va rfl rfl rfl (q_move (v := .slice Amembers members.length cmembers) rfl (by kernel_rfl)) ?_
      refine va rfl rfl rfl (q_len_slice rfl Try.underlying22 rfl) ?_
      refine va rfl rfl rfl (q_lss rfl rfl rfl) ?_
      refine WR.nil ?_
      change WC _ _ _ _ _ _
      refine WC.cond (b := (decide (((i33 : Nat) : Int) < ((members.length : Nat) : Int)))) (by kernel_rfl) (fun hb37 => ?_) (fun hb37 => ?_)
      · skip
        have hl38 := ilt hb37
        have h := hlt35 hl38
        refine WC.skip ?_
        change WC _ _ _ _ _ _
        refine WC.cut (fun σ w => ∃ (best_39 : Int), m_firthref12_Order_j19 f32 best_39 = some r ∧ slots σ [(0, .slice Amembers members.length cmembers), (5, .slice A17 out_16.length c18), (6, .int .u64 z10), (7, .slice (some ⟨g13, 0, none⟩) 9 9), (8, .int .i64 best_39), (9, .int .i64 ((i33 : Nat) : Int))] ∧ CC F Γ [row19, row22] w ∧ I64 best_39 ∧ True) ?_ ?_
        · skip
          refine WC.block ?_
          refine WC.rs ?_
          refine va rfl rfl rfl (q_move (v := .slice Amembers members.length cmembers) rfl (by kernel_rfl)) ?_
          refine va rfl rfl rfl (q_move (v := .int .i64 ((i33 : Nat) : Int)) rfl (by kernel_rfl)) ?_
          refine va rfl rfl rfl (q_ixn (i := i33) Try.underlying22 Try.sizeOf3 rfl rfl rfl hl38 (hmembers.some_ hl38)) ?_
          refine va rfl rfl rfl (q_ld (c := 0) (v := .int .i64 (gt members i33)) (hmembers.intT_at hl38).2 rfl Try.isAgg3 rfl rfl) ?_
          refine va rfl rfl rfl (q_assign (v := .int .i64 (gt members i33)) rfl (by kernel_rfl)) ?_
          refine WR.nil ?_
          change WC _ _ _ _ _ _
          refine WC.rs ?_
          refine va rfl rfl rfl (q_move (v := .slice (some ⟨g13, 0, none⟩) 9 9) rfl (by kernel_rfl)) ?_
          refine va rfl rfl rfl (q_move (v := .int .i64 (gt members i33)) rfl (by kernel_rfl)) ?_
          obtain ⟨hk41, h⟩ := chk_some h
          refine va rfl rfl rfl (q_ix Try.underlying56 Try.sizeOf4 rfl rfl rfl hk41 (ho23.some_ (ltq (inb_lt hk41) hn24.symm))) ?_
          refine va rfl rfl rfl (q_ldo (c := 0) (v := .bool (gt x21 ((gt members i33).toNat))) (i := 1) rfl (ho23.boolT_at (ltq (inb_lt hk41) hn24.symm)).2 rfl Try.isAgg4 rfl rfl) ?_
          refine va rfl rfl rfl (q_not rfl rfl) ?_
          refine va rfl rfl rfl (q_move (v := .bool (!(gt x21 ((gt members i33).toNat)))) rfl (by kernel_rfl)) ?_
          refine vg1 rfl rfl rfl rfl rfl (fun hg42 => QV.qo (q_move (v := .int .i64 best_30) rfl (by kernel_rfl))) ?_
          refine vg1 rfl rfl rfl rfl rfl (fun hg43 => QV.qo (q_eql rfl (gu hg43 rfl) rfl)) ?_
          refine vg1 rfl rfl rfl rfl rfl (fun hg44 => QV.qo (q_move (v := .bool (best_30 == 0)) rfl (gu hg44 rfl))) ?_
          refine vh0 (c0 := (!(gt x21 ((gt members i33).toNat)))) (g := (best_30 == 0)) rfl rfl rfl rfl rfl (fun hg45 => QV.qo (q_move (v := .int .i64 (gt members i33)) rfl (by kernel_rfl))) ?_
          refine vh0 (c0 := (!(gt x21 ((gt members i33).toNat)))) (g := (best_30 == 0)) rfl rfl rfl rfl rfl (fun hg46 => QV.qo (q_move (v := .int .u64 z10) rfl (by kernel_rfl))) ?_
          obtain ⟨hk48, h⟩ := chk_some h
          obtain ⟨z49, hz50, h⟩ := bnd h
          refine vh0 (c0 := (!(gt x21 ((gt members i33).toNat)))) (g := (best_30 == 0)) rfl rfl rfl rfl rfl (fun hg47 => (q_call (call_run Try.call38 rfl rfl (args2 (gu hg47 rfl) (gu hg47 rfl))) (fun w hw => t_firthref12_first (Γ := Gh.all w) (gt members i33) (hmembers.intT_at hl38).1 z10 (u64b_of (imp_of hk48 hg47)) (Sat.all w) (gc_of hz50 hg47)))) ?_
          refine vh0 (c0 := (!(gt x21 ((gt members i33).toNat)))) (g := (best_30 == 0)) rfl rfl rfl rfl rfl (fun hg51 => QV.qo (q_move (v := .int .i64 best_30) rfl (by kernel_rfl))) ?_
          refine vh0 (c0 := (!(gt x21 ((gt members i33).toNat)))) (g := (best_30 == 0)) rfl rfl rfl rfl rfl (fun hg52 => QV.qo (q_move (v := .int .u64 z10) rfl (by kernel_rfl))) ?_
          obtain ⟨z54, hz55, h⟩ := bnd h
          refine vh0 (c0 := (!(gt x21 ((gt members i33).toNat)))) (g := (best_30 == 0)) rfl rfl rfl rfl rfl (fun hg53 => (q_call (call_run Try.call38 rfl rfl (args2 (gu hg53 rfl) (gu hg53 rfl))) (fun w hw => t_firthref12_first (Γ := Gh.all w) best_30 hr31 z10 (u64b_of (imp_of hk48 hg53)) (Sat.all w) (gc_of hz55 hg53)))) ?_
          refine vh0 (c0 := (!(gt x21 ((gt members i33).toNat)))) (g := (best_30 == 0)) rfl rfl rfl rfl rfl (fun hg56 => QV.qo (q_lss rfl (gu hg56 rfl) (gu hg56 rfl))) ?_
          refine vg1 rfl rfl rfl rfl rfl (fun hg57 => QV.qo (q_pick rfl (gu hg57 rfl) (pk_or (c := (!(gt x21 ((gt members i33).toNat)))) (g := (best_30 == 0)) (y := (decide (z49 < z54))) hg57))) ?_
          refine va rfl rfl rfl (q_pick rfl rfl (pk_and' (g := (!(gt x21 ((gt members i33).toNat)))) (y := ((best_30 == 0) || (decide (z49 < z54)))))) ?_
          refine WR.nil ?_
          change WC _ _ _ _ _ _
          refine WC.cif h (by kernel_rfl) (fun hb58 h => ?_) (fun hb58 h => ?_)
          · skip
            refine WC.region ?_
            refine va rfl rfl rfl (q_move (v := .int .i64 (gt members i33)) rfl (by kernel_rfl)) ?_
            refine va rfl rfl rfl (q_assign (v := .int .i64 (gt members i33)) rfl (by kernel_rfl)) ?_
            refine WR.nil ?_
            intro w hw
            exact ⟨(gt members i33), h, (sl_ (by kernel_rfl)), hw, (hmembers.intT_at hl38).1, trivial⟩
          · skip
            refine WC.skip ?_
            intro w hw
            exact ⟨best_30, h, (sl_ (by kernel_rfl)), hw, hr31, trivial⟩
        · skip
          rintro σ w ⟨best_39, h, hsl, hw, hr40, -⟩
          refine Wpt.slots hsl ?_
          refine WC.here (C := CC F Γ [row19, row22]) ?_ hw
          clear hw hsl
          refine WC.region ?_
          refine va rfl rfl rfl (q_move (v := .int .i64 ((i33 : Nat) : Int)) rfl (by kernel_rfl)) ?_
          refine va rfl rfl rfl (q_add_r (r := ((i33 + 1 : Nat) : Int)) rfl rfl rfl (ctr_len hl38 hmembers.le)) ?_
          refine va rfl rfl rfl (q_assign (v := .int .i64 ((i33 + 1 : Nat) : Int)) rfl (by kernel_rfl)) ?_
          refine WR.nil ?_
          intro w hw
          exact ⟨hl38, best_39, h, (sl_ (by kernel_rfl)), hw, hr40, trivial⟩
      · skip
        have h := hge36 (ige hb37)
        refine WC.exit ?_
        change WC _ _ _ _ _ _
        refine WC.rs ?_
        refine va rfl rfl rfl (q_move (v := .slice (some ⟨g13, 0, none⟩) 9 9) rfl (by kernel_rfl)) ?_
        refine va rfl rfl rfl (q_move (v := .int .i64 best_30) rfl (by kernel_rfl)) ?_
        obtain ⟨hk59, h⟩ := chk_some h
        refine va rfl rfl rfl (q_ix Try.underlying56 Try.sizeOf4 rfl rfl rfl hk59 (ho23.some_ (ltq (inb_lt hk59) hn24.symm))) ?_
        refine e_store_own (T := boolT) (q := best_30.toNat) (v := .bool true) (y := true) rfl rfl rfl rfl (by kernel_rfl) Try.sizeOf4 (by exact rfl) (i := 1) rfl ho23 (ltq (inb_lt hk59) hn24.symm) ?_
        intro row60 ho61
        refine WR.nil ?_
        change WC _ _ _ _ _ _
        refine WC.region ?_
        refine va rfl rfl rfl (q_move (v := .slice A17 out_16.length c18) rfl (by kernel_rfl)) ?_
        refine va rfl rfl rfl (q_move (v := .int .i64 best_30) rfl (by kernel_rfl)) ?_
        refine e_buildSlice (cs := #[.int .i64 best_30]) (e := 3) rfl rfl rfl rfl (fun w => by kernel_rfl) ?_
        intro g62
        obtain ⟨hk63, h⟩ := chk_some h
        refine e_append (T := intT) (xs := out_16) (ys := [best_30]) elem_22 (i := 1) rfl rfl rfl rfl rfl rfl rfl ho20 (of_decide_eq_true hk63) (fun w hw => src_one (T := intT) (y := best_30) (i := 0) rfl (by exact ⟨rfl, hr31⟩) hw) ?_
        intro row64 A65 c66 ho67
        refine va rfl rfl rfl (q_assign (v := .slice A65 (out_16 ++ [best_30]).length c66) rfl (by kernel_rfl)) ?_
        refine WR.nil ?_
        intro w hw
        exact ⟨((out_16 ++ [best_30]), (List.set x21 best_30.toNat true)), h, A65, c66, row64, row60, (sl_ (by kernel_rfl)), (hw.only (is := [1, 1]) rfl), ho67, (List.length_set.trans hn24), ho61, trivial⟩
    · skip
      refine WC.exit ?_
      change WC _ _ _ _ _ _
      refine WC.rs ?_
      refine va rfl rfl rfl (q_move (v := .slice A17 out_16.length c18) rfl (by kernel_rfl)) ?_
      refine va rfl rfl rfl (q_assign (v := .slice A17 out_16.length c18) rfl (by kernel_rfl)) ?_
      refine WR.nil ?_
      change WC _ _ _ _ _ _
      refine WC.ret ?_
      intro w hw
      obtain rfl := Option.some.inj h
      subst hF
      exact end_e (is := [0]) (by kernel_rfl) hw rfl ⟨A17, c18, row19, rfl, rfl, ho20, trivial⟩
set_option maxRecDepth 100000 in
set_option maxHeartbeats 400000 in
theorem t_firthref12_cut {Γ : Gh} {w0 : World} {Ao : Option Addr} {co : Nat} {o : List Int} (ho : Sl intT Γ Ao o) (hoc : o.length ≤ co) (n : Int) (hn : I64 n) (hs : Sat Γ w0) {r : Int} (h : m_firthref12_cut o n = some r) : Calls Try.prog 27 #[.slice Ao o.length co, .int .i64 n] w0 (fun e w' => e = .returned (.int .i64 r) ∧ Fr no w0 w') := by
  refine calls_of (N := 14) (rs := [4]) (args := [.slice Ao o.length co, .int .i64 n]) Try.func27 rfl Try.ntmps27 Try.results27 rfl ?_
  obtain ⟨F, hF⟩ : ∃ F : Fm, F = ⟨no, w0, Γ⟩ := ⟨_, rfl⟩
  refine WC.here (C := CC F Γ []) ?_ (hF ▸ Cur.start0 hs)
  refine WC.rs ?_
  refine va rfl rfl rfl (q_assign (v := .int .i64 0) rfl (by kernel_rfl)) ?_
  refine WR.nil ?_
  change WC _ _ _ _ _ _
  refine WC.seq ?_
  refine WC.rs ?_
  refine va rfl rfl rfl (q_move (v := .int .i64 n) rfl (by kernel_rfl)) ?_
  refine va rfl rfl rfl (q_lss rfl rfl rfl) ?_
  refine WR.nil ?_
  change WC _ _ _ _ _ _
  refine WC.cif h (by kernel_rfl) (fun hb1 h => ?_) (fun hb1 h => ?_)
  · skip
    refine WC.rs ?_
    refine va rfl rfl rfl (q_assign (v := .int .i64 0) rfl (by kernel_rfl)) ?_
    refine WR.nil ?_
    change WC _ _ _ _ _ _
    refine WC.ret ?_
    intro w hw
    obtain rfl := Option.some.inj h
    subst hF
    exact ⟨by kernel_rfl, hw.fr⟩
  · skip
    refine WC.skip ?_
    change WC _ _ _ _ _ _
    refine WC.seq ?_
    refine WC.rs ?_
    refine va rfl rfl rfl (q_move (v := .int .i64 n) rfl (by kernel_rfl)) ?_
    refine va rfl rfl rfl (q_move (v := .slice Ao o.length co) rfl (by kernel_rfl)) ?_
    refine va rfl rfl rfl (q_len_slice rfl Try.underlying22 rfl) ?_
    refine va rfl rfl rfl (q_gtr rfl rfl rfl) ?_
    refine WR.nil ?_
    change WC _ _ _ _ _ _
    refine WC.cif h (by kernel_rfl) (fun hb2 h => ?_) (fun hb2 h => ?_)
    · skip
      refine WC.rs ?_
      refine va rfl rfl rfl (q_move (v := .slice Ao o.length co) rfl (by kernel_rfl)) ?_
      refine va rfl rfl rfl (q_len_slice rfl Try.underlying22 rfl) ?_
      refine va rfl rfl rfl (q_assign (v := .int .i64 ((o.length : Nat) : Int)) rfl (by kernel_rfl)) ?_
      refine WR.nil ?_
      change WC _ _ _ _ _ _
      refine WC.ret ?_
      intro w hw
      obtain rfl := Option.some.inj h
      subst hF
      exact ⟨by kernel_rfl, hw.fr⟩
    · skip
      refine WC.skip ?_
      change WC _ _ _ _ _ _
      refine WC.rs ?_
      refine va rfl rfl rfl (q_move (v := .int .i64 n) rfl (by kernel_rfl)) ?_
      refine va rfl rfl rfl (q_assign (v := .int .i64 n) rfl (by kernel_rfl)) ?_
      refine WR.nil ?_
      change WC _ _ _ _ _ _
      refine WC.ret ?_
      intro w hw
      obtain rfl := Option.some.inj h
      subst hF
      exact ⟨by kernel_rfl, hw.fr⟩
abbrev r_firthref12_List (r : List Int) (U : List Rowb) (Γ : Gh) (v : Value) : Prop := ∃ (A0 : Option Addr), ∃ (c0 : Nat), v = .slice A0 r.length c0 ∧ U = [] ∧ r.length ≤ c0 ∧ Sl intT Γ A0 r ∧ True
set_option maxRecDepth 100000 in
set_option maxHeartbeats 400000 in
theorem t_firthref12_List {Γ : Gh} {w0 : World} {Amembers : Option Addr} {cmembers : Nat} {members : List Int} (hmembers : Sl intT Γ Amembers members) (hmembersc : members.length ≤ cmembers) (part : Int) (hpart : I64 part) (n : Int) (hn : I64 n) (hp : Pre [] Γ w0) {r : List Int} (h : m_firthref12_List members part n = some r) : Calls Try.prog 16 #[.slice Amembers members.length cmembers, .int .i64 part, .int .i64 n] w0 (Outc Γ [] w0 (r_firthref12_List r)) := by
  refine calls_of (N := 16) (rs := [6]) (args := [.slice Amembers members.length cmembers, .int .i64 part, .int .i64 n]) Try.func16 rfl Try.ntmps16 Try.results16 rfl ?_
  obtain ⟨F, hF⟩ : ∃ F : Fm, F = ⟨ids [], w0, Γ⟩ := ⟨_, rfl⟩
  refine WC.here (C := CC F Γ []) ?_ (hF ▸ hp.start)
  refine WC.rs ?_
  refine va rfl rfl rfl (q_assign (v := .slice none 0 0) rfl (by kernel_rfl)) ?_
  refine WR.nil ?_
  change WC _ _ _ _ _ _
  refine WC.rs ?_
  refine va rfl rfl rfl (q_move (v := .slice Amembers members.length cmembers) rfl (by kernel_rfl)) ?_
  refine va rfl rfl rfl (q_move (v := .int .i64 part) rfl (by kernel_rfl)) ?_
  obtain ⟨z1, hz2, h⟩ := bnd h
  refine e_call (is := []) rfl rfl (call_run Try.call26 rfl rfl (by kernel_rfl)) rfl (fun w hp => t_firthref12_Order hmembers hmembersc part hpart hp hz2) ?_
  rintro Γ3 U5 v6 hl4 ⟨A7, c8, row9, rfl, rfl, hr10, _⟩
  change WR _ _ _ (CC F Γ3 [row9]) _ _ (upd _ 10 (.slice A7 z1.length c8))
  refine va rfl rfl rfl (q_assign (v := .slice A7 z1.length c8) rfl (by kernel_rfl)) ?_
  refine WR.nil ?_
  change WC _ _ _ _ _ _
  refine WC.rs ?_
  refine va rfl rfl rfl (q_move (v := .slice A7 z1.length c8) rfl (by kernel_rfl)) ?_
  refine va rfl rfl rfl (q_move (v := .slice A7 z1.length c8) rfl (by kernel_rfl)) ?_
  refine va rfl rfl rfl (q_move (v := .int .i64 n) rfl (by kernel_rfl)) ?_
  obtain ⟨z11, hz12, h⟩ := bnd h
  refine vc rfl rfl rfl (q_call (call_run Try.call27 rfl rfl (by kernel_rfl)) (fun w hw => t_firthref12_cut (Γ := Gh.all w) (hr10.sl hw.sat.le_all (hw.ra 0 rfl)) hr10.capz n hn (Sat.all w) hz12)) ?_
  have hc17 := hr10.capz
  intro w hw; obtain ⟨Γ13, hw, hl14, hr15⟩ := hw.seal (i := 0) rfl; have hs16 := hr10.sl hl14 hr15
  refine WR.here (C := CC F Γ13 [[]]) ?_ hw
  clear hw
  obtain ⟨hk18, h⟩ := chk_some h
  refine va rfl rfl rfl (q_cut_to (c := c8) (hi := z11.toNat) (xs := z1) Try.underlying22 Try.sizeOf3 rfl rfl (inle_eq rfl hk18) (inle_le hk18) hc17) ?_
  refine va rfl rfl rfl (q_assign (v := .slice A7 (List.take z11.toNat z1).length c8) rfl (by kernel_rfl)) ?_
  refine WR.nil ?_
  change WC _ _ _ _ _ _
  refine WC.ret ?_
  intro w hw
  obtain rfl := Option.some.inj h
  subst hF
  exact end_e (is := []) (by kernel_rfl) hw rfl ⟨A7, c8, rfl, rfl, (take_cap hc17 z11.toNat), (hs16.cut_to (hi := z11.toNat) (inle_le hk18)), trivial⟩
set_option maxRecDepth 100000 in
set_option maxHeartbeats 400000 in
theorem t_firthref06_Ints {Γ : Gh} {w0 : World} {Aa : Option Addr} {ca : Nat} {a : List Int} (ha : Sl intT Γ Aa a) (hac : a.length ≤ ca) {Ab : Option Addr} {cb : Nat} {b : List Int} (hb : Sl intT Γ Ab b) (hbc : b.length ≤ cb) (hs : Sat Γ w0) {r : Bool} (h : m_firthref06_Ints a b = some r) : Calls Try.prog 12 #[.slice Aa a.length ca, .slice Ab b.length cb] w0 (fun e w' => e = .returned (.bool r) ∧ Fr no w0 w') := by
  refine calls_of (N := 26) (rs := [4]) (args := [.slice Aa a.length ca, .slice Ab b.length cb]) Try.func12 rfl Try.ntmps12 Try.results12 rfl ?_
  obtain ⟨F, hF⟩ : ∃ F : Fm, F = ⟨no, w0, Γ⟩ := ⟨_, rfl⟩
  refine WC.here (C := CC F Γ []) ?_ (hF ▸ Cur.start0 hs)
  refine WC.rs ?_
  refine va rfl rfl rfl (q_assign (v := .bool false) rfl (by kernel_rfl)) ?_
  refine WR.nil ?_
  change WC _ _ _ _ _ _
  refine WC.seq ?_
  refine WC.rs ?_
  refine va rfl rfl rfl (q_move (v := .slice Aa a.length ca) rfl (by kernel_rfl)) ?_
  refine va rfl rfl rfl (q_len_slice rfl Try.underlying22 rfl) ?_
  refine va rfl rfl rfl (q_move (v := .slice Ab b.length cb) rfl (by kernel_rfl)) ?_
  refine va rfl rfl rfl (q_len_slice rfl Try.underlying22 rfl) ?_
  refine va rfl rfl rfl (q_neq rfl rfl rfl) ?_
  refine WR.nil ?_
  change WC _ _ _ _ _ _
  refine WC.cif h (by kernel_rfl) (fun hb1 h => ?_) (fun hb1 h => ?_)
  · skip
    refine WC.rs ?_
    refine va rfl rfl rfl (q_assign (v := .bool false) rfl (by kernel_rfl)) ?_
    refine WR.nil ?_
    change WC _ _ _ _ _ _
    refine WC.ret ?_
    intro w hw
    obtain rfl := Option.some.inj h
    subst hF
    exact ⟨by kernel_rfl, hw.fr⟩
  · skip
    refine WC.skip ?_
    change WC _ _ _ _ _ _
    refine WC.seq ?_
    refine WC.rs ?_
    refine va rfl rfl rfl (q_assign (v := .int .i64 0) rfl (by kernel_rfl)) ?_
    refine WR.nil ?_
    change WC _ _ _ _ _ _
    refine WC.block ?_
    refine WC.forI h (fun (i3 : Nat) (s : Unit) σ w => match s with | () => slots σ [(0, .slice Aa a.length ca), (1, .slice Ab b.length cb), (5, .int .i64 ((i3 : Nat) : Int))] ∧ CC F Γ [] w ∧ True) ?_ ?_
    · skip
      intro w hw
      exact ⟨(sl_ (by kernel_rfl)), hw, trivial⟩
    rintro f2 i3 ⟨⟩ σ w hi4 hlt5 hge6 ⟨hsl, hw, -⟩
    refine Wpt.slots hsl ?_
    refine WC.here (C := CC F Γ []) ?_ hw
    clear hw hsl
    refine WC.seq ?_
    refine WC.rs ?_
    refine va rfl rfl rfl (q_move (v := .int .i64 ((i3 : Nat) : Int)) rfl (by kernel_rfl)) ?_
    refine va rfl rfl rfl (q_move (v := .slice Aa a.length ca) rfl (by kernel_rfl)) ?_
    refine va rfl rfl rfl (q_len_slice rfl Try.underlying22 rfl) ?_
    refine va rfl rfl rfl (q_lss rfl rfl rfl) ?_
    refine WR.nil ?_
    change WC _ _ _ _ _ _
    refine WC.cond (b := (decide (((i3 : Nat) : Int) < ((a.length : Nat) : Int)))) (by kernel_rfl) (fun hb7 => ?_) (fun hb7 => ?_)
    · skip
      have hl8 := ilt hb7
      have h := hlt5 hl8
      refine WC.skip ?_
      change WC _ _ _ _ _ _
      refine WC.seq ?_
      refine WC.block ?_
      refine WC.seq ?_
      refine WC.dr (by kernel_rfl) (by kernel_rfl) (fun w hw => hw.drawn _) ?_
      refine wa rfl rfl rfl (q_move (v := .slice Aa a.length ca) rfl (by kernel_rfl)) ?_
      refine wa rfl rfl rfl (q_move (v := .int .i64 ((i3 : Nat) : Int)) rfl (by kernel_rfl)) ?_
      refine wa rfl rfl rfl (q_ixn (i := i3) Try.underlying22 Try.sizeOf3 rfl rfl rfl hl8 (ha.some_ hl8)) ?_
      refine wa rfl rfl rfl (q_ld (c := 0) (v := .int .i64 (gt a i3)) (ha.intT_at hl8).2 rfl Try.isAgg3 rfl rfl) ?_
      refine wa rfl rfl rfl (q_move (v := .slice Ab b.length cb) rfl (by kernel_rfl)) ?_
      refine wa rfl rfl rfl (q_move (v := .int .i64 ((i3 : Nat) : Int)) rfl (by kernel_rfl)) ?_
      obtain ⟨hk9, h⟩ := chk_some h
      refine wa rfl rfl rfl (q_ixn (i := i3) Try.underlying22 Try.sizeOf3 rfl rfl rfl (of_decide_eq_true hk9) (hb.some_ (of_decide_eq_true hk9))) ?_
      refine wa rfl rfl rfl (q_ld (c := 0) (v := .int .i64 (gt b i3)) (hb.intT_at (of_decide_eq_true hk9)).2 rfl Try.isAgg3 rfl rfl) ?_
      refine wa rfl rfl rfl (q_neq rfl rfl rfl) ?_
      refine WQ.nil ?_
      change WC _ _ _ _ _ _
      refine WC.cif h (by kernel_rfl) (fun hb10 h => ?_) (fun hb10 h => ?_)
      · skip
        refine WC.rs ?_
        refine va rfl rfl rfl (q_assign (v := .bool false) rfl (by kernel_rfl)) ?_
        refine WR.nil ?_
        change WC _ _ _ _ _ _
        refine WC.ret ?_
        intro w hw
        obtain rfl := Option.some.inj h
        subst hF
        exact ⟨by kernel_rfl, hw.fr⟩
      · skip
        refine WC.skip ?_
        change WC _ _ _ _ _ _
        refine WC.region ?_
        refine va rfl rfl rfl (q_move (v := .int .i64 ((i3 : Nat) : Int)) rfl (by kernel_rfl)) ?_
        refine va rfl rfl rfl (q_add_r (r := ((i3 + 1 : Nat) : Int)) rfl rfl rfl (ctr_len hl8 ha.le)) ?_
        refine va rfl rfl rfl (q_assign (v := .int .i64 ((i3 + 1 : Nat) : Int)) rfl (by kernel_rfl)) ?_
        refine WR.nil ?_
        intro w hw
        exact ⟨hl8, (), h, (sl_ (by kernel_rfl)), hw, trivial⟩
    · skip
      have h := hge6 (ige hb7)
      refine WC.exit ?_
      change WC _ _ _ _ _ _
      refine WC.rs ?_
      refine va rfl rfl rfl (q_assign (v := .bool true) rfl (by kernel_rfl)) ?_
      refine WR.nil ?_
      change WC _ _ _ _ _ _
      refine WC.ret ?_
      intro w hw
      obtain rfl := Option.some.inj h
      subst hF
      exact ⟨by kernel_rfl, hw.fr⟩
abbrev r_ring_Rest (r : List Int) (U : List Rowb) (Γ : Gh) (v : Value) : Prop := ∃ (A0 : Option Addr), ∃ (c0 : Nat), ∃ (row0 : Rowb), v = .slice A0 r.length c0 ∧ U = [row0] ∧ Own intT Γ 3 row0 A0 c0 r ∧ True
set_option maxRecDepth 100000 in
set_option maxHeartbeats 400000 in
theorem t_ring_Rest {Γ : Gh} {w0 : World} {Amembers : Option Addr} {cmembers : Nat} {members : List Int} (hmembers : Sl intT Γ Amembers members) (hmembersc : members.length ≤ cmembers) (part : Int) (hpart : I64 part) (n : Int) (hn : I64 n) (hp : Pre [] Γ w0) {r : List Int} (h : m_ring_Rest members part n = some r) : Calls Try.prog 17 #[.slice Amembers members.length cmembers, .int .i64 part, .int .i64 n] w0 (Outc Γ [] w0 (r_ring_Rest r)) := by
  refine calls_of (N := 19) (rs := [6]) (args := [.slice Amembers members.length cmembers, .int .i64 part, .int .i64 n]) Try.func17 rfl Try.ntmps17 Try.results17 rfl ?_
  obtain ⟨F, hF⟩ : ∃ F : Fm, F = ⟨ids [], w0, Γ⟩ := ⟨_, rfl⟩
  refine WC.here (C := CC F Γ []) ?_ (hF ▸ hp.start)
  refine WC.rs ?_
  refine va rfl rfl rfl (q_assign (v := .slice none 0 0) rfl (by kernel_rfl)) ?_
  refine WR.nil ?_
  change WC _ _ _ _ _ _
  refine WC.rs ?_
  refine va rfl rfl rfl (q_move (v := .slice Amembers members.length cmembers) rfl (by kernel_rfl)) ?_
  refine va rfl rfl rfl (q_move (v := .int .i64 part) rfl (by kernel_rfl)) ?_
  obtain ⟨z1, hz2, h⟩ := bnd h
  refine e_call (is := []) rfl rfl (call_run Try.call22 rfl rfl (by kernel_rfl)) rfl (fun w hp => t_ring_order hmembers hmembersc part hpart hp hz2) ?_
  rintro Γ3 U5 v6 hl4 ⟨A7, c8, row9, rfl, rfl, hr10, _⟩
  change WR _ _ _ (CC F Γ3 [row9]) _ _ (upd _ 10 (.slice A7 z1.length c8))
  refine va rfl rfl rfl (q_assign (v := .slice A7 z1.length c8) rfl (by kernel_rfl)) ?_
  refine WR.nil ?_
  change WC _ _ _ _ _ _
  refine WC.rs ?_
  refine va rfl rfl rfl (q_move (v := .slice A7 z1.length c8) rfl (by kernel_rfl)) ?_
  refine va rfl rfl rfl (q_move (v := .int .i64 n) rfl (by kernel_rfl)) ?_
  refine va rfl rfl rfl (q_max rfl rfl rfl) ?_
  refine va rfl rfl rfl (q_move (v := .slice A7 z1.length c8) rfl (by kernel_rfl)) ?_
  refine va rfl rfl rfl (q_len_slice rfl Try.underlying22 rfl) ?_
  refine va rfl rfl rfl (q_min rfl rfl rfl) ?_
  have hc15 := hr10.capz
  intro w hw; obtain ⟨Γ11, hw, hl12, hr13⟩ := hw.seal (i := 0) rfl; have hs14 := hr10.sl hl12 hr13
  refine WR.here (C := CC F Γ11 [[]]) ?_ hw
  clear hw
  obtain ⟨hk16, h⟩ := chk_some h
  refine va rfl rfl rfl (q_cut_from (c := c8) (lo := (min (max n 0) ((z1.length : Nat) : Int)).toNat) (xs := z1) Try.underlying22 Try.sizeOf3 rfl rfl (inle_eq rfl hk16) (inle_le hk16)) ?_
  obtain ⟨z17, hz18, h⟩ := bnd h
  refine e_call (is := []) rfl rfl (call_run Try.call23 rfl rfl (by kernel_rfl)) rfl (fun w hp => t_slices_Clone_int_int (hs14.cut_from (c := c8) (lo := (min (max n 0) ((z1.length : Nat) : Int)).toNat) (inle_le hk16) hc15) (cut_cap hc15 ((min (max n 0) ((z1.length : Nat) : Int)).toNat)) hp hz18) ?_
  rintro Γ19 U21 v22 hl20 ⟨A23, c24, row25, rfl, rfl, hr26, _⟩
  change WR _ _ _ (CC F Γ19 [row25, []]) _ _ (upd _ 18 (.slice A23 z17.length c24))
  refine va rfl rfl rfl (q_assign (v := .slice A23 z17.length c24) rfl (by kernel_rfl)) ?_
  refine WR.nil ?_
  change WC _ _ _ _ _ _
  refine WC.ret ?_
  intro w hw
  obtain rfl := Option.some.inj h
  subst hF
  exact end_e (is := [0]) (by kernel_rfl) hw rfl ⟨A23, c24, row25, rfl, rfl, hr26, trivial⟩
set_option maxRecDepth 100000 in
set_option maxHeartbeats 400000 in
theorem t_firthlaw12_RingKeeps {Γ : Gh} {w0 : World} {Amembers : Option Addr} {cmembers : Nat} {members : List Int} (hmembers : Sl intT Γ Amembers members) (hmembersc : members.length ≤ cmembers) (part : Int) (hpart : I64 part) (n : Int) (hn : I64 n) (hs : Sat Γ w0) {r : Bool} (h : m_firthlaw12_RingKeeps members part n = some r) : Calls Try.prog 7 #[.slice Amembers members.length cmembers, .int .i64 part, .int .i64 n] w0 (fun e w' => e = .returned (.bool r) ∧ Fr no w0 w') := by
  refine calls_of (N := 57) (rs := [6]) (args := [.slice Amembers members.length cmembers, .int .i64 part, .int .i64 n]) Try.func7 rfl Try.ntmps7 Try.results7 rfl ?_
  obtain ⟨F, hF⟩ : ∃ F : Fm, F = ⟨no, w0, Γ⟩ := ⟨_, rfl⟩
  refine WC.here (C := CC F Γ []) ?_ (hF ▸ Cur.start0 hs)
  refine WC.rs ?_
  refine va rfl rfl rfl (q_assign (v := .bool false) rfl (by kernel_rfl)) ?_
  refine WR.nil ?_
  change WC _ _ _ _ _ _
  refine WC.seq ?_
  refine WC.rs ?_
  obtain ⟨z1, hz2, h⟩ := bnd h
  refine vc rfl rfl rfl (q_call (call_run Try.call9 rfl rfl (by kernel_rfl)) (fun w hw => t_firthlaw12_awake (Γ := Gh.all w)  (Sat.all w) hz2)) ?_
  refine va rfl rfl rfl (q_not rfl rfl) ?_
  refine WR.nil ?_
  change WC _ _ _ _ _ _
  refine WC.cif h (by kernel_rfl) (fun hb3 h => ?_) (fun hb3 h => ?_)
  · skip
    refine WC.rs ?_
    refine va rfl rfl rfl (q_assign (v := .bool false) rfl (by kernel_rfl)) ?_
    refine WR.nil ?_
    change WC _ _ _ _ _ _
    refine WC.ret ?_
    intro w hw
    obtain rfl := Option.some.inj h
    subst hF
    exact ⟨by kernel_rfl, hw.fr⟩
  · skip
    refine WC.skip ?_
    change WC _ _ _ _ _ _
    refine WC.rs ?_
    refine va rfl rfl rfl (q_assign (v := .slice none 0 0) rfl (by kernel_rfl)) ?_
    refine WR.nil ?_
    change WC _ _ _ _ _ _
    refine WC.rs ?_
    refine va rfl rfl rfl (q_move (v := .slice none 0 0) rfl (by kernel_rfl)) ?_
    refine va rfl rfl rfl (q_move (v := .slice Amembers members.length cmembers) rfl (by kernel_rfl)) ?_
    refine WR.sub (fun w hw => hw.pad) ?_
    obtain ⟨hk4, h⟩ := chk_some h
    refine e_append (T := intT) (xs := []) (ys := members) elem_22 (i := 0) rfl rfl rfl rfl (by kernel_rfl) rfl rfl (Own.nil intT Γ 3) (of_decide_eq_true hk4) (fun w hw => src_sl hmembers hw) ?_
    intro row5 A6 c7 ho8
    refine va rfl rfl rfl (q_assign (v := .slice A6 members.length c7) rfl (by kernel_rfl)) ?_
    refine WR.nil ?_
    change WC _ _ _ _ _ _
    refine WC.rs ?_
    refine va rfl rfl rfl (q_move (v := .slice A6 members.length c7) rfl (by kernel_rfl)) ?_
    refine va rfl rfl rfl (q_move (v := .int .i64 part) rfl (by kernel_rfl)) ?_
    refine va rfl rfl rfl (q_move (v := .int .i64 n) rfl (by kernel_rfl)) ?_
    have hc13 := ho8.capz
    intro w hw; obtain ⟨Γ9, hw, hl10, hr11⟩ := hw.seal (i := 0) rfl; have hs12 := ho8.sl hl10 hr11
    refine WR.here (C := CC F Γ9 [[]]) ?_ hw
    clear hw
    obtain ⟨z14, hz15, h⟩ := bnd h
    refine e_call (is := []) rfl rfl (call_run Try.call11 rfl rfl (by kernel_rfl)) rfl (fun w hp => t_ring_List hs12 hc13 part hpart n hn hp hz15) ?_
    rintro Γ16 U18 v19 hl17 ⟨A20, c21, row22, rfl, rfl, hr23, _⟩
    change WR _ _ _ (CC F Γ16 [row22, []]) _ _ (upd _ 20 (.slice A20 z14.length c21))
    refine va rfl rfl rfl (q_assign (v := .slice A20 z14.length c21) rfl (by kernel_rfl)) ?_
    refine WR.nil ?_
    change WC _ _ _ _ _ _
    refine WC.rs ?_
    refine va rfl rfl rfl (q_move (v := .slice A6 members.length c7) rfl (by kernel_rfl)) ?_
    refine va rfl rfl rfl (q_move (v := .int .i64 part) rfl (by kernel_rfl)) ?_
    refine va rfl rfl rfl (q_move (v := .int .i64 n) rfl (by kernel_rfl)) ?_
    obtain ⟨z24, hz25, h⟩ := bnd h
    refine e_call (is := []) rfl rfl (call_run Try.call17 rfl rfl (by kernel_rfl)) rfl (fun w hp => t_ring_Rest (hs12.mono hl17) hc13 part hpart n hn hp hz25) ?_
    rintro Γ26 U28 v29 hl27 ⟨A30, c31, row32, rfl, rfl, hr33, _⟩
    change WR _ _ _ (CC F Γ26 [row32, row22, []]) _ _ (upd _ 24 (.slice A30 z24.length c31))
    refine va rfl rfl rfl (q_assign (v := .slice A30 z24.length c31) rfl (by kernel_rfl)) ?_
    refine WR.nil ?_
    change WC _ _ _ _ _ _
    refine WC.seq ?_
    refine WC.rs ?_
    refine va rfl rfl rfl (q_assign (v := .int .i64 0) rfl (by kernel_rfl)) ?_
    refine WR.nil ?_
    change WC _ _ _ _ _ _
    refine WC.block ?_
    refine WC.forU h (fun (i39 : Nat) (x34 : List Int) σ w => ∃ (row35 : Rowb), slots σ [(0, .slice Amembers members.length cmembers), (1, .int .i64 part), (2, .int .i64 n), (7, .slice A6 members.length c7), (8, .slice A20 z14.length c21), (9, .slice A30 z24.length c31), (10, .int .i64 ((i39 : Nat) : Int))] ∧ CC F Γ26 [row32, row35] w ∧ x34.length = z14.length ∧ Own intT Γ26 3 row35 A20 c21 x34 ∧ True) ?_ ?_
    · skip
      intro w hw
      exact ⟨row22, (sl_ (by kernel_rfl)), (hw.only (is := [0, 0]) rfl), rfl, (hr23.mono hl27), trivial⟩
    rintro f38 i39 x34 σ w hi40 hlt41 hge42 ⟨row35, hsl, hw, hn37, ho36, -⟩
    refine Wpt.slots hsl ?_
    refine WC.here (C := CC F Γ26 [row32, row35]) ?_ hw
    clear hw hsl
    refine WC.seq ?_
    refine WC.rs ?_
    refine va rfl rfl rfl (q_move (v := .int .i64 ((i39 : Nat) : Int)) rfl (by kernel_rfl)) ?_
    refine va rfl rfl rfl (q_move (v := .slice A20 z14.length c21) rfl (by kernel_rfl)) ?_
    refine va rfl rfl rfl (q_len_slice rfl Try.underlying22 rfl) ?_
    refine va rfl rfl rfl (q_lss rfl rfl rfl) ?_
    refine WR.nil ?_
    change WC _ _ _ _ _ _
    refine WC.cond (b := (decide (((i39 : Nat) : Int) < ((z14.length : Nat) : Int)))) (by kernel_rfl) (fun hb43 => ?_) (fun hb43 => ?_)
    · skip
      have hl44 := ilt hb43
      have h := hlt41 hl44
      refine WC.skip ?_
      change WC _ _ _ _ _ _
      refine WC.seq ?_
      refine WC.block ?_
      refine WC.region ?_
      refine va rfl rfl rfl (q_move (v := .slice A20 z14.length c21) rfl (by kernel_rfl)) ?_
      refine va rfl rfl rfl (q_move (v := .int .i64 ((i39 : Nat) : Int)) rfl (by kernel_rfl)) ?_
      refine va rfl rfl rfl (q_ixn (i := i39) Try.underlying22 Try.sizeOf3 rfl rfl rfl hl44 (ho36.some_ (ltq hl44 hn37.symm))) ?_
      refine e_store_own (T := intT) (q := i39) (v := .int .i64 (-1)) (y := (-1)) rfl rfl rfl rfl (by kernel_rfl) Try.sizeOf3 (by exact ⟨rfl, (show I64 (-1) by decide)⟩) (i := 1) rfl ho36 (ltq hl44 hn37.symm) ?_
      intro row45 ho46
      refine WR.nil ?_
      change WC _ _ _ _ _ _
      refine WC.region ?_
      refine va rfl rfl rfl (q_move (v := .int .i64 ((i39 : Nat) : Int)) rfl (by kernel_rfl)) ?_
      refine va rfl rfl rfl (q_add_r (r := ((i39 + 1 : Nat) : Int)) rfl rfl rfl (ctr_len hl44 (hn37 ▸ ho36.le))) ?_
      refine va rfl rfl rfl (q_assign (v := .int .i64 ((i39 + 1 : Nat) : Int)) rfl (by kernel_rfl)) ?_
      refine WR.nil ?_
      intro w hw
      exact ⟨hl44, (List.set x34 i39 (-1)), h, row45, (sl_ (by kernel_rfl)), hw, (List.length_set.trans hn37), ho46, trivial⟩
    · skip
      have h := hge42 (ige hb43)
      refine WC.exit ?_
      change WC _ _ _ _ _ _
      refine WC.seq ?_
      refine WC.rs ?_
      refine va rfl rfl rfl (q_assign (v := .int .i64 0) rfl (by kernel_rfl)) ?_
      refine WR.nil ?_
      change WC _ _ _ _ _ _
      refine WC.block ?_
      refine WC.forU h (fun (i52 : Nat) (x47 : List Int) σ w => ∃ (row48 : Rowb), slots σ [(0, .slice Amembers members.length cmembers), (1, .int .i64 part), (2, .int .i64 n), (7, .slice A6 members.length c7), (9, .slice A30 z24.length c31), (11, .int .i64 ((i52 : Nat) : Int))] ∧ CC F Γ26 [row48] w ∧ x47.length = z24.length ∧ Own intT Γ26 3 row48 A30 c31 x47 ∧ True) ?_ ?_
      · skip
        intro w hw
        exact ⟨row32, (sl_ (by kernel_rfl)), (hw.only (is := [0]) rfl), rfl, hr33, trivial⟩
      rintro f51 i52 x47 σ w hi53 hlt54 hge55 ⟨row48, hsl, hw, hn50, ho49, -⟩
      refine Wpt.slots hsl ?_
      refine WC.here (C := CC F Γ26 [row48]) ?_ hw
      clear hw hsl
      refine WC.seq ?_
      refine WC.rs ?_
      refine va rfl rfl rfl (q_move (v := .int .i64 ((i52 : Nat) : Int)) rfl (by kernel_rfl)) ?_
      refine va rfl rfl rfl (q_move (v := .slice A30 z24.length c31) rfl (by kernel_rfl)) ?_
      refine va rfl rfl rfl (q_len_slice rfl Try.underlying22 rfl) ?_
      refine va rfl rfl rfl (q_lss rfl rfl rfl) ?_
      refine WR.nil ?_
      change WC _ _ _ _ _ _
      refine WC.cond (b := (decide (((i52 : Nat) : Int) < ((z24.length : Nat) : Int)))) (by kernel_rfl) (fun hb56 => ?_) (fun hb56 => ?_)
      · skip
        have hl57 := ilt hb56
        have h := hlt54 hl57
        refine WC.skip ?_
        change WC _ _ _ _ _ _
        refine WC.seq ?_
        refine WC.block ?_
        refine WC.region ?_
        refine va rfl rfl rfl (q_move (v := .slice A30 z24.length c31) rfl (by kernel_rfl)) ?_
        refine va rfl rfl rfl (q_move (v := .int .i64 ((i52 : Nat) : Int)) rfl (by kernel_rfl)) ?_
        refine va rfl rfl rfl (q_ixn (i := i52) Try.underlying22 Try.sizeOf3 rfl rfl rfl hl57 (ho49.some_ (ltq hl57 hn50.symm))) ?_
        refine e_store_own (T := intT) (q := i52) (v := .int .i64 (-2)) (y := (-2)) rfl rfl rfl rfl (by kernel_rfl) Try.sizeOf3 (by exact ⟨rfl, (show I64 (-2) by decide)⟩) (i := 0) rfl ho49 (ltq hl57 hn50.symm) ?_
        intro row58 ho59
        refine WR.nil ?_
        change WC _ _ _ _ _ _
        refine WC.region ?_
        refine va rfl rfl rfl (q_move (v := .int .i64 ((i52 : Nat) : Int)) rfl (by kernel_rfl)) ?_
        refine va rfl rfl rfl (q_add_r (r := ((i52 + 1 : Nat) : Int)) rfl rfl rfl (ctr_len hl57 (hn50 ▸ ho49.le))) ?_
        refine va rfl rfl rfl (q_assign (v := .int .i64 ((i52 + 1 : Nat) : Int)) rfl (by kernel_rfl)) ?_
        refine WR.nil ?_
        intro w hw
        exact ⟨hl57, (List.set x47 i52 (-2)), h, row58, (sl_ (by kernel_rfl)), hw, (List.length_set.trans hn50), ho59, trivial⟩
      · skip
        have h := hge55 (ige hb56)
        refine WC.exit ?_
        change WC _ _ _ _ _ _
        refine WC.rs ?_
        refine va rfl rfl rfl (q_move (v := .slice A6 members.length c7) rfl (by kernel_rfl)) ?_
        refine va rfl rfl rfl (q_move (v := .slice Amembers members.length cmembers) rfl (by kernel_rfl)) ?_
        obtain ⟨z60, hz61, h⟩ := bnd h
        refine vc rfl rfl rfl (q_call (call_run Try.call12 rfl rfl (by kernel_rfl)) (fun w hw => t_firthref06_Ints (Γ := Gh.all w) ((hs12.mono (hl17.trans hl27)).mono hw.sat.le_all) hc13 ((hmembers.mono ((hl10.trans hl17).trans hl27)).mono hw.sat.le_all) hmembersc (Sat.all w) hz61)) ?_
        refine va rfl rfl rfl (q_move (v := .bool z60) rfl (by kernel_rfl)) ?_
        refine vg1 rfl rfl rfl rfl rfl (fun hg62 => QV.qo (q_move (v := .slice A6 members.length c7) rfl (by kernel_rfl))) ?_
        refine vg1 rfl rfl rfl rfl rfl (fun hg63 => QV.qo (q_move (v := .int .i64 part) rfl (by kernel_rfl))) ?_
        refine vg1 rfl rfl rfl rfl rfl (fun hg64 => QV.qo (q_move (v := .int .i64 n) rfl (by kernel_rfl))) ?_
        refine (Bool.eq_false_or_eq_true z60).elim (fun hb65 => ?_) (fun hb65 => ?_)
        · skip
          have h := bt hb65 h
          refine WR.sat (c0 := true) (g := z60) rfl rfl rfl hb65 ?_
          obtain ⟨z66, hz67, h⟩ := bnd h
          refine e_call (is := []) rfl rfl (call_run Try.call11 rfl rfl (args3 (gu hb65 rfl) (gu hb65 rfl) (gu hb65 rfl))) rfl (fun w hp => t_ring_List (hs12.mono (hl17.trans hl27)) hc13 part hpart n hn hp hz67) ?_
          rintro Γ68 U70 v71 hl69 ⟨A72, c73, row74, rfl, rfl, hr75, _⟩
          change WR _ _ _ (CC F Γ68 [row74, row48]) _ _ (upd _ 50 (.slice A72 z66.length c73))
          refine WR.sat (c0 := true) (g := z60) rfl rfl rfl hb65 ?_
          refine va rfl rfl rfl (q_move (v := .slice Amembers members.length cmembers) rfl (by kernel_rfl)) ?_
          refine WR.sat (c0 := true) (g := z60) rfl rfl rfl hb65 ?_
          refine va rfl rfl rfl (q_move (v := .int .i64 part) rfl (by kernel_rfl)) ?_
          refine WR.sat (c0 := true) (g := z60) rfl rfl rfl hb65 ?_
          refine va rfl rfl rfl (q_move (v := .int .i64 n) rfl (by kernel_rfl)) ?_
          refine WR.sat (c0 := true) (g := z60) rfl rfl rfl hb65 ?_
          obtain ⟨z76, hz77, h⟩ := bnd h
          refine e_call (is := []) rfl rfl (call_run Try.call16 rfl rfl (by kernel_rfl)) rfl (fun w hp => t_firthref12_List (hmembers.mono (((hl10.trans hl17).trans hl27).trans hl69)) hmembersc part hpart n hn hp hz77) ?_
          rintro Γ78 U80 v81 hl79 ⟨A82, c83, rfl, rfl, hc85, hr84, _⟩
          change WR _ _ _ (CC F Γ78 [row74, row48]) _ _ (upd _ 54 (.slice A82 z76.length c83))
          refine WR.sat (c0 := true) (g := z60) rfl rfl rfl hb65 ?_
          obtain ⟨z86, hz87, h⟩ := bnd h
          refine vc rfl rfl rfl (q_call (call_run Try.call12 rfl rfl (by kernel_rfl)) (fun w hw => t_firthref06_Ints (Γ := Gh.all w) ((hr75.mono hl79).sl hw.sat.le_all (hw.ra 0 rfl)) (hr75.mono hl79).capz (hr84.mono hw.sat.le_all) hc85 (Sat.all w) hz87)) ?_
          refine va rfl rfl rfl (q_pick_t (v := .bool z86) rfl rfl hb65 (by kernel_rfl)) ?_
          refine va rfl rfl rfl (q_assign (v := .bool z86) rfl (by kernel_rfl)) ?_
          refine WR.nil ?_
          change WC _ _ _ _ _ _
          refine WC.ret ?_
          intro w hw
          obtain rfl := Option.some.inj h
          subst hF
          exact ⟨by kernel_rfl, hw.fr⟩
        · skip
          have h := bf hb65 h
          refine WR.unsat (c0 := true) (g := z60) rfl rfl rfl hb65 rfl ?_
          refine WR.unsat (c0 := true) (g := z60) rfl rfl rfl hb65 rfl ?_
          refine WR.unsat (c0 := true) (g := z60) rfl rfl rfl hb65 rfl ?_
          refine WR.unsat (c0 := true) (g := z60) rfl rfl rfl hb65 rfl ?_
          refine WR.unsat (c0 := true) (g := z60) rfl rfl rfl hb65 rfl ?_
          refine WR.unsat (c0 := true) (g := z60) rfl rfl rfl hb65 rfl ?_
          refine va rfl rfl rfl (q_pick_f (v := .bool false) rfl rfl hb65 (by kernel_rfl)) ?_
          refine va rfl rfl rfl (q_assign (v := .bool false) rfl (by kernel_rfl)) ?_
          refine WR.nil ?_
          change WC _ _ _ _ _ _
          refine WC.ret ?_
          intro w hw
          obtain rfl := Option.some.inj h
          subst hF
          exact ⟨by kernel_rfl, hw.fr⟩
end Fw
end Go.Proofs.Ytdhenoidmialaaa
