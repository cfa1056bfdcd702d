/- Walks through the functions that the law reaches (printed by a program). No condition. -/
import Derived.Test.YtichdipjedoijaaM
import Derived.Test.YtichdipjedoijaaS
namespace Go.Proofs.Ytichdipjedoijaa
namespace Fw
set_option linter.unusedVariables false
set_option linter.unusedSimpArgs false
set_option linter.unusedSectionVars false
open Go.RowKit
def Odisk_Disk.ob (e : TypeId) (Γ : Gh) (g : Nat) (row : Rowb) (x : Odisk_Disk) : Prop := ∃ (m1 : Nat) (r1 : Rowb) (m2 : Nat) (r2 : Rowb) (A3 : Option Addr) (c3 : Nat) (r3 : Rowb), row = ([[(g, .cells #[.int .i64 x.room, .map (some m1), .map (some m2), .slice A3 x.loose.length c3] e (0, 0))], r1, r2, r3] : List Rowb).flatten ∧ I64 x.room ∧ MapO (strK Try.underlying9) (slT byteT).v Γ r1 m1 x.safe_ ∧ MapO (strK Try.underlying9) (slT byteT).v Γ r2 m2 x.seen ∧ Own ddisk_changeT Γ 68 r3 A3 c3 x.loose ∧ True
theorem Odisk_Disk.ob.mono {e : TypeId} {Γ Δ : Gh} {g : Nat} {row : Rowb} {x : Odisk_Disk} (h : Odisk_Disk.ob e Γ g row x) (hs : Γ.le Δ) : Odisk_Disk.ob e Δ g row x := by
  obtain ⟨m1, r1, m2, r2, A3, c3, r3, hr, h0, h1, h2, h3, _⟩ := h
  exact ⟨m1, r1, m2, r2, A3, c3, r3, hr, h0, h1.mono hs, h2.mono hs, h3.mono hs, trivial⟩
def Ofirthref07_Disk.ob (e : TypeId) (Γ : Gh) (g : Nat) (row : Rowb) (x : Ofirthref07_Disk) : Prop := ∃ (A1 : Option Addr) (c1 : Nat) (A2 : Option Addr) (c2 : Nat) (r2 : Rowb), row = ([[(g, .cells #[.int .i64 x.room, .slice A1 x.safe_.length c1, .slice A2 x.todo.length c2] e (0, 0))], r2] : List Rowb).flatten ∧ I64 x.room ∧ x.safe_.length ≤ c1 ∧ Sl dfirthref07_FileT Γ A1 x.safe_ ∧ Own dfirthref07_ChangeT Γ 83 r2 A2 c2 x.todo ∧ True
theorem Ofirthref07_Disk.ob.mono {e : TypeId} {Γ Δ : Gh} {g : Nat} {row : Rowb} {x : Ofirthref07_Disk} (h : Ofirthref07_Disk.ob e Γ g row x) (hs : Γ.le Δ) : Ofirthref07_Disk.ob e Δ g row x := by
  obtain ⟨A1, c1, A2, c2, r2, hr, h0, h1, h2, h3, _⟩ := h
  exact ⟨A1, c1, A2, c2, r2, hr, h0, h1, h2.mono hs, h3.mono hs, trivial⟩
abbrev r_disk_New (r : Odisk_Disk) (U : List Rowb) (Γ : Gh) (v : Value) : Prop := ∃ (g0 : Nat), ∃ (row0 : Rowb), v = .pointer (some ⟨g0, 0, none⟩) ∧ U = [row0] ∧ Odisk_Disk.ob 61 Γ g0 row0 r ∧ True
set_option maxRecDepth 100000 in
set_option maxHeartbeats 400000 in
theorem t_disk_New {Γ : Gh} {w0 : World} (room : Int) (hroom : I64 room) (hp : Pre [] Γ w0) {r : Odisk_Disk} (h : m_disk_New room = some r) : Calls Try.prog 10 #[.int .i64 room] w0 (Outc Γ [] w0 (r_disk_New r)) := by
  refine calls_of (N := 10) (rs := [2]) (args := [.int .i64 room]) Try.func10 rfl Try.ntmps10 Try.results10 rfl ?_
  obtain ⟨F, hF⟩ : ∃ F : Fm, F = ⟨ids [], w0, Γ⟩ := ⟨_, rfl⟩
  refine WC.here (C := CC F Γ []) ?_ (hF ▸ hp.start)
  refine WC.rs ?_
  refine va rfl rfl rfl (q_assign (v := .pointer none) rfl (by kernel_rfl)) ?_
  refine WR.nil ?_
  change WC _ _ _ _ _ _
  refine WC.rs ?_
  refine va rfl rfl rfl (q_move (v := .int .i64 room) rfl (by kernel_rfl)) ?_
  refine va rfl rfl rfl (q_max rfl rfl rfl) ?_
  refine va rfl rfl rfl (q_min rfl rfl rfl) ?_
  refine e_makeMap (strK Try.underlying9) (slT byteT).v rfl rfl rfl rfl ?_
  intro g1 row2 hm3
  refine e_makeMap (strK Try.underlying9) (slT byteT).v rfl rfl rfl rfl ?_
  intro g4 row5 hm6
  refine va rfl rfl rfl (q_build' (v := .agg #[.int .i64 (min (max room 0) 1073741824), .map (some g1), .map (some g4), .slice none 0 0]) rfl (bargs3 rfl rfl rfl) (fun w => by kernel_rfl)) ?_
  refine e_box (v := .agg #[.int .i64 (min (max room 0) 1073741824), .map (some g1), .map (some g4), .slice none 0 0]) rfl rfl rfl rfl (by kernel_rfl) ?_
  intro g7
  refine va rfl rfl rfl (q_assign (v := .pointer (some ⟨g7, 0, none⟩)) rfl (by kernel_rfl)) ?_
  refine WR.nil ?_
  change WC _ _ _ _ _ _
  refine WC.ret ?_
  intro w hw
  have hw := hw.pad
  obtain ⟨row_8, hrow_8, hob_8⟩ : ∃ rw : Rowb, rw = ([[(g7, .cells #[.int .i64 (min (max room 0) 1073741824), .map (some g1), .map (some g4), .slice none 0 0] 61 (0, 0))], row2, row5, []] : List Rowb).flatten ∧ Odisk_Disk.ob 61 Γ g7 rw (⟨(min (max room 0) 1073741824), ([] : List (ByteArray × (List UInt8))), ([] : List (ByteArray × (List UInt8))), []⟩ : Odisk_Disk) := ⟨_, rfl, g1, row2, g4, row5, none, 0, [], rfl, (min_r (max_r hroom (show I64 0 by decide)) (show I64 1073741824 by decide)), hm3, hm6, (Own.nil ddisk_changeT Γ 68), trivial⟩
  have hw := hw.fold (is := [1, 2, 1, 0]) rfl hrow_8
  obtain rfl := Option.some.inj h
  subst hF
  exact end_e (is := [0]) (by kernel_rfl) hw rfl ⟨g7, row_8, rfl, rfl, hob_8, trivial⟩
set_option maxRecDepth 100000 in
set_option maxHeartbeats 400000 in
theorem t_disk_right {Γ : Gh} {w0 : World} {Anames : Option Addr} {cnames : Nat} {names : List ByteArray} (hnames : Sl strT Γ Anames names) (hnamesc : names.length ≤ cnames) (hs : Sat Γ w0) {r : Bool} (h : m_disk_right names = some r) : Calls Try.prog 26 #[.slice Anames names.length cnames] w0 (fun e w' => e = .returned (.bool r) ∧ Fr no w0 w') := by
  refine calls_of (N := 20) (rs := [2]) (args := [.slice Anames names.length cnames]) Try.func26 rfl Try.ntmps26 Try.results26 rfl ?_
  obtain ⟨F, hF⟩ : ∃ F : Fm, F = ⟨no, w0, Γ⟩ := ⟨_, rfl⟩
  refine WC.here (C := CC F Γ []) ?_ (hF ▸ Cur.start0 hs)
  refine WC.rs ?_
  refine va rfl rfl rfl (q_assign (v := .bool false) rfl (by kernel_rfl)) ?_
  refine WR.nil ?_
  change WC _ _ _ _ _ _
  refine WC.seq ?_
  refine WC.rs ?_
  refine va rfl rfl rfl (q_move (v := .slice Anames names.length cnames) rfl (by kernel_rfl)) ?_
  refine va rfl rfl rfl (q_len_slice rfl Try.underlying33 rfl) ?_
  refine va rfl rfl rfl (q_move (v := .int .i64 0) rfl (by kernel_rfl)) ?_
  refine WR.nil ?_
  change WC _ _ _ _ _ _
  refine WC.block ?_
  refine WC.forI h (fun (i2 : Nat) (s : Unit) σ w => match s with | () => slots σ [(5, .slice Anames names.length cnames), (6, .int .i64 ((names.length : Nat) : Int)), (7, .int .i64 ((i2 : Nat) : Int))] ∧ CC F Γ [] w ∧ True) ?_ ?_
  · skip
    intro w hw
    exact ⟨(sl_ (by kernel_rfl)), hw, trivial⟩
  rintro f1 i2 ⟨⟩ σ w hi3 hlt4 hge5 ⟨hsl, hw, -⟩
  refine Wpt.slots hsl ?_
  refine WC.here (C := CC F Γ []) ?_ hw
  clear hw hsl
  refine WC.rs ?_
  refine va rfl rfl rfl (q_lss rfl rfl rfl) ?_
  refine WR.nil ?_
  change WC _ _ _ _ _ _
  refine WC.seq ?_
  refine WC.cond (b := (decide (((i2 : Nat) : Int) < ((names.length : Nat) : Int)))) (by kernel_rfl) (fun hb6 => ?_) (fun hb6 => ?_)
  · skip
    have hl7 := ilt hb6
    have h := hlt4 hl7
    refine WC.skip ?_
    change WC _ _ _ _ _ _
    refine WC.seq ?_
    refine WC.block ?_
    refine WC.rs ?_
    refine va rfl rfl rfl (q_ixn (i := i2) Try.underlying33 Try.sizeOf9 rfl rfl rfl hl7 (hnames.some_ hl7)) ?_
    refine va rfl rfl rfl (q_ld (c := 0) (v := .string (gt names i2)) (hnames.strT_at hl7).2 rfl Try.isAgg9 rfl rfl) ?_
    refine va rfl rfl rfl (q_assign (v := .string (gt names i2)) rfl (by kernel_rfl)) ?_
    refine WR.nil ?_
    change WC _ _ _ _ _ _
    refine WC.rs ?_
    refine va rfl rfl rfl (q_move (v := .string (gt names i2)) rfl (by kernel_rfl)) ?_
    refine va rfl rfl rfl (q_len_str rfl Try.underlying9 rfl) ?_
    refine va rfl rfl rfl (q_lss rfl rfl rfl) ?_
    refine va rfl rfl rfl (q_move (v := .bool (decide ((((gt names i2).size : Nat) : Int) < 1))) rfl (by kernel_rfl)) ?_
    refine vg0 rfl rfl rfl rfl rfl (fun hg8 => QV.qo (q_move (v := .string (gt names i2)) rfl (by kernel_rfl))) ?_
    refine vg0 rfl rfl rfl rfl rfl (fun hg9 => QV.qo (q_len_str rfl Try.underlying9 (gu hg9 rfl))) ?_
    refine vg0 rfl rfl rfl rfl rfl (fun hg10 => QV.qo (q_gtr rfl (gu hg10 rfl) rfl)) ?_
    refine va rfl rfl rfl (q_pick rfl rfl (pk_or' (g := (decide ((((gt names i2).size : Nat) : Int) < 1))) (y := (decide (16 < (((gt names i2).size : Nat) : Int)))))) ?_
    refine WR.nil ?_
    change WC _ _ _ _ _ _
    refine WC.cif h (by kernel_rfl) (fun hb11 h => ?_) (fun hb11 h => ?_)
    · skip
      refine WC.rs ?_
      refine va rfl rfl rfl (q_assign (v := .bool false) rfl (by kernel_rfl)) ?_
      refine WR.nil ?_
      change WC _ _ _ _ _ _
      refine WC.ret ?_
      intro w hw
      obtain rfl := Option.some.inj h
      subst hF
      exact ⟨by kernel_rfl, hw.fr⟩
    · skip
      refine WC.skip ?_
      change WC _ _ _ _ _ _
      refine WC.region ?_
      refine va rfl rfl rfl (q_add_r (r := ((i2 + 1 : Nat) : Int)) rfl rfl rfl (ctr_len hl7 hnames.le)) ?_
      refine va rfl rfl rfl (q_move (v := .int .i64 ((i2 + 1 : Nat) : Int)) rfl (by kernel_rfl)) ?_
      refine WR.nil ?_
      intro w hw
      exact ⟨hl7, (), h, (sl_ (by kernel_rfl)), hw, trivial⟩
  · skip
    have h := hge5 (ige hb6)
    refine WC.exit ?_
    change WC _ _ _ _ _ _
    refine WC.rs ?_
    refine va rfl rfl rfl (q_assign (v := .bool true) rfl (by kernel_rfl)) ?_
    refine WR.nil ?_
    change WC _ _ _ _ _ _
    refine WC.ret ?_
    intro w hw
    obtain rfl := Option.some.inj h
    subst hF
    exact ⟨by kernel_rfl, hw.fr⟩
set_option maxRecDepth 100000 in
set_option maxHeartbeats 400000 in
theorem t_disk_Disk_Used {Γ : Gh} {w0 : World} {gd ed : Nat} {rowd : Rowb} {d : Odisk_Disk} (hd : Odisk_Disk.ob ed Γ gd rowd d) (hdr : ∀ p ∈ rowd, Γ p.1 = some p.2) (hs : Sat Γ w0) {r : Int} (h : m_disk_Disk_Used d = some r) : Calls Try.prog 18 #[.pointer (some ⟨gd, 0, none⟩)] w0 (fun e w' => e = .returned (.int .i64 r) ∧ Fr no w0 w') := by
  refine calls_of (N := 20) (rs := [2]) (args := [.pointer (some ⟨gd, 0, none⟩)]) Try.func18 rfl Try.ntmps18 Try.results18 rfl ?_
  obtain ⟨F, hF⟩ : ∃ F : Fm, F = ⟨no, w0, Γ⟩ := ⟨_, rfl⟩
  refine WC.here (C := CC F Γ []) ?_ (hF ▸ Cur.start0 hs)
  refine WC.rs ?_
  refine va rfl rfl rfl (q_assign (v := .int .i64 0) rfl (by kernel_rfl)) ?_
  refine WR.nil ?_
  change WC _ _ _ _ _ _
  refine WC.rs ?_
  refine va rfl rfl rfl (q_assign (v := .int .i64 0) rfl (by kernel_rfl)) ?_
  refine WR.nil ?_
  change WC _ _ _ _ _ _
  refine WC.seq ?_
  refine WC.rs ?_
  refine va rfl rfl rfl (q_move (v := .pointer (some ⟨gd, 0, none⟩)) rfl (by kernel_rfl)) ?_
  refine va rfl rfl rfl (q_nil (A := some ⟨gd, 0, none⟩) rfl rfl rfl) ?_
  refine va rfl rfl rfl (q_fl 2 fld_61_2 rfl rfl rfl) ?_
  have hq := hd
  obtain ⟨m1_1, r1_1, m2_1, r2_1, A3_1, c3_1, r3_1, hrow_1, ho0_1, ho1_1, ho2_1, ho3_1, -⟩ := hq
  have hg_2 : ∀ u ∈ ([[(gd, .cells #[.int .i64 d.room, .map (some m1_1), .map (some m2_1), .slice A3_1 d.loose.length c3_1] ed (0, 0))], r1_1, r2_1, r3_1] : List Rowb), ∀ p ∈ u, Γ p.1 = some p.2 := fun u hu p hp => (fun p hp => (hdr p hp)) p (hrow_1 ▸ List.mem_flatten.2 ⟨u, hu, hp⟩)
  have hgc3 := hg_2 _ (List.mem_cons_self ..) (gd, _) (List.mem_singleton.2 rfl)
  have hgs4 := hg_2 r1_1 (by simp)
  have hgs5 := hg_2 r2_1 (by simp)
  have hgs6 := hg_2 r3_1 (by simp)
  have hs7 := ho3_1.sl (Gh.refl _) hgs6
  refine va rfl rfl rfl (q_ldg (v := .map (some m2_1)) hgc3 rfl Try.isAgg58 rfl rfl) ?_
  refine e_range ho2_1 (fun w hw p hp => hw.sat _ _ (hgs5 p hp)) rfl rfl rfl Try.underlying58 rfl ?_
  intro g8 row9 hi10
  change WR _ _ _ (CC F Γ [row9]) _ _ (upd _ 10 (.pointer (some ⟨g8, 0, none⟩)))
  refine WR.nil ?_
  change WC _ _ _ _ _ _
  refine WC.block ?_
  refine WC.forE h (Comm.of_tot _ (fun _ _ => rfl) (fun _ _ _ => w64_comm _ _ _)) (fun (l11 : List (ByteArray × (List UInt8))) (n_12 : Int) σ w => ∃ (row14 : Rowb), slots σ [(3, .int .i64 n_12), (10, .pointer (some ⟨g8, 0, none⟩))] ∧ CC F Γ [row14] w ∧ I64 n_12 ∧ ItO (strK Try.underlying9) (slT byteT).v Γ row14 g8 m2_1 r2_1 d.seen l11 ∧ True) ?_ ?_
  · skip
    intro w hw
    exact ⟨row9, (sl_ (by kernel_rfl)), hw, (show I64 0 by decide), hi10, trivial⟩
  rintro G21 l11 n_12 σ w hstep16 hK17 ⟨row14, hsl, hw, hr13, hi15, -⟩
  refine Wpt.slots hsl ?_
  refine WC.here (C := CC F Γ [row14]) ?_ hw
  clear hw hsl
  refine WC.rs ?_
  refine e_next (i := 0) rfl ho2_1.ks hi15 (fun w hw p hp => hw.sat _ _ (hgs5 p hp)) rfl rfl rfl rfl (fun hl22 => ?_) (fun en23 l24 v25 row26 hp27 hok28 hv29 hit30 he31 => ?_)
  · skip
    have h := hK17 hl22
    change WR _ _ _ (CC F Γ [row14]) _ _ (upd _ 11 (.tuple #[.bool false]))
    refine va rfl rfl rfl (q_extract (v := .bool false) rfl rfl rfl) ?_
    refine WR.nil ?_
    change WC _ _ _ _ _ _
    refine WC.seq ?_
    refine WC.cfk (b := false) (by kernel_rfl) rfl ?_
    refine WC.exit ?_
    change WC _ _ _ _ _ _
    refine WC.rs ?_
    refine va rfl rfl rfl (q_move (v := .int .i64 n_12) rfl (by kernel_rfl)) ?_
    refine va rfl rfl rfl (q_assign (v := .int .i64 n_12) rfl (by kernel_rfl)) ?_
    refine WR.nil ?_
    change WC _ _ _ _ _ _
    refine WC.ret ?_
    intro w hw
    obtain rfl := Option.some.inj h
    subst hF
    exact ⟨by kernel_rfl, hw.fr⟩
  · skip
    obtain ⟨hlen18, s219, h, hgo20⟩ := hstep16 en23 l24 hp27
    obtain ⟨A32, c33, hv29, hc34, hs35⟩ := hv29
    obtain rfl : v25 = _ := List.cons.inj hv29 |>.1
    change WR _ _ _ (CC F Γ [row26]) _ _ (upd _ 11 (.tuple #[.bool true, .string en23.1, .slice A32 en23.2.length c33]))
    refine va rfl rfl rfl (q_extract (v := .bool true) rfl rfl rfl) ?_
    refine WR.nil ?_
    change WC _ _ _ _ _ _
    refine WC.seq ?_
    refine WC.ctk (b := true) (by kernel_rfl) rfl ?_
    refine WC.skip ?_
    change WC _ _ _ _ _ _
    refine WC.block ?_
    refine WC.rs ?_
    refine va rfl rfl rfl (q_entry (kv := .string en23.1) (v := .slice A32 en23.2.length c33) (i := 0) rfl he31 (fun w hw p hp => hw.sat _ _ (hgs5 p hp)) rfl rfl) ?_
    refine va rfl rfl rfl (q_extract (v := .slice A32 en23.2.length c33) rfl rfl rfl) ?_
    refine va rfl rfl rfl (q_assign (v := .slice A32 en23.2.length c33) rfl (by kernel_rfl)) ?_
    refine WR.nil ?_
    change WC _ _ _ _ _ _
    refine WC.region ?_
    refine va rfl rfl rfl (q_move (v := .int .i64 n_12) rfl (by kernel_rfl)) ?_
    refine va rfl rfl rfl (q_move (v := .slice A32 en23.2.length c33) rfl (by kernel_rfl)) ?_
    refine va rfl rfl rfl (q_len_slice rfl Try.underlying22 rfl) ?_
    refine va rfl rfl rfl (q_add rfl rfl rfl) ?_
    refine va rfl rfl rfl (q_assign (v := .int .i64 (w64 (n_12 + ((en23.2.length : Nat) : Int)))) rfl (by kernel_rfl)) ?_
    refine WR.nil ?_
    intro w hw
    obtain rfl := Option.some.inj h
    exact ⟨l24, _, hlen18, hgo20, row26, (sl_ (by kernel_rfl)), hw, (w64_r _), hit30, trivial⟩
abbrev r_slices_Clone_byte_byte (r : List UInt8) (U : List Rowb) (Γ : Gh) (v : Value) : Prop := ∃ (A0 : Option Addr), ∃ (c0 : Nat), ∃ (row0 : Rowb), v = .slice A0 r.length c0 ∧ U = [row0] ∧ Own byteT Γ 5 row0 A0 c0 r ∧ True
set_option maxRecDepth 100000 in
set_option maxHeartbeats 400000 in
theorem t_slices_Clone_byte_byte {Γ : Gh} {w0 : World} {As_ : Option Addr} {cs_ : Nat} {s_ : List UInt8} (hs_ : Sl byteT Γ As_ s_) (hs_c : s_.length ≤ cs_) (hp : Pre [] Γ w0) {r : List UInt8} (h : m_slices_Clone_byte_byte s_ = some r) : Calls Try.prog 27 #[.slice As_ s_.length cs_] w0 (Outc Γ [] w0 (r_slices_Clone_byte_byte r)) := by
  refine calls_of (N := 8) (rs := [2]) (args := [.slice As_ s_.length cs_]) Try.func27 rfl Try.ntmps27 Try.results27 rfl ?_
  obtain ⟨F, hF⟩ : ∃ F : Fm, F = ⟨ids [], w0, Γ⟩ := ⟨_, rfl⟩
  refine WC.here (C := CC F Γ []) ?_ (hF ▸ hp.start)
  refine WC.rs ?_
  refine va rfl rfl rfl (q_assign (v := .slice none 0 0) rfl (by kernel_rfl)) ?_
  refine WR.nil ?_
  change WC _ _ _ _ _ _
  refine WC.seq ?_
  refine WC.rs ?_
  refine va rfl rfl rfl (q_move (v := .slice As_ s_.length cs_) rfl (by kernel_rfl)) ?_
  refine va rfl rfl rfl (q_nil_slice Try.underlying22 rfl rfl rfl) ?_
  refine WR.nil ?_
  change WC _ _ _ _ _ _
  refine WC.cnil h (by kernel_rfl) (fun hb => hs_.none_nil hb) (fun hb1 h => ?_) (fun hb1 h => ?_)
  · skip
    refine WC.rs ?_
    refine va rfl rfl rfl (q_assign (v := .slice none 0 0) rfl (by kernel_rfl)) ?_
    refine WR.nil ?_
    change WC _ _ _ _ _ _
    refine WC.ret ?_
    intro w hw
    have hw := hw.pad
    obtain rfl := Option.some.inj h
    subst hF
    exact end_e (is := [0]) (by kernel_rfl) hw rfl ⟨none, 0, [], rfl, rfl, (Own.nil byteT _ 5), trivial⟩
  · skip
    refine WC.skip ?_
    change WC _ _ _ _ _ _
    refine WC.rs ?_
    refine e_buildSlice (cs := #[]) (e := 5) rfl rfl rfl rfl (fun w => by kernel_rfl) ?_
    intro g2
    refine va rfl rfl rfl (q_move (v := .slice As_ s_.length cs_) rfl (by kernel_rfl)) ?_
    have ho3 : Own byteT Γ 5 [(g2, .cells #[] 5 (0, 0))] (some ⟨g2, 0, none⟩) 0 ([] : List UInt8) := Own.of_block (T := byteT) (ys := ([] : List UInt8)) [] rfl rfl (show 0 ≤ lim by decide) (fun i h => absurd h (by simp))
    obtain ⟨hk4, h⟩ := chk_some h
    refine e_append (T := byteT) (xs := ([] : List UInt8)) (ys := s_) elem_22 (i := 0) rfl rfl rfl rfl rfl rfl rfl ho3 (of_decide_eq_true hk4) (fun w hw => src_sl hs_ hw) ?_
    intro row5 A6 c7 ho8
    refine va rfl rfl rfl (q_assign (v := .slice A6 (([] : List UInt8) ++ s_).length c7) rfl (by kernel_rfl)) ?_
    refine WR.nil ?_
    change WC _ _ _ _ _ _
    refine WC.ret ?_
    intro w hw
    obtain rfl := Option.some.inj h
    subst hF
    exact end_e (is := [0]) (by kernel_rfl) hw rfl ⟨A6, c7, row5, rfl, rfl, ho8, trivial⟩
abbrev r_disk_add (r : Cdisk_change_do) (U : List Rowb) (Γ : Gh) (v : Value) : Prop := ∃ (A0 : Option Addr), ∃ (c0 : Nat), v = (Cdisk_change_do.val r A0 c0) ∧ U = [] ∧ Cdisk_change_do.ok Γ A0 c0 r ∧ True
set_option maxRecDepth 100000 in
set_option maxHeartbeats 400000 in
theorem t_disk_add {Γ : Gh} {w0 : World} (name : ByteArray) (hname : name.size ≤ lim) {Ab : Option Addr} {cb : Nat} {b : List UInt8} (hb : Sl byteT Γ Ab b) (hbc : b.length ≤ cb) (hp : Pre [] Γ w0) {r : Cdisk_change_do} (h : m_disk_add name b = some r) : Calls Try.prog 29 #[.string name, .slice Ab b.length cb] w0 (Outc Γ [] w0 (r_disk_add r)) := by
  refine calls_of (N := 6) (rs := [4]) (args := [.string name, .slice Ab b.length cb]) Try.func29 rfl Try.ntmps29 Try.results29 rfl ?_
  obtain ⟨F, hF⟩ : ∃ F : Fm, F = ⟨ids [], w0, Γ⟩ := ⟨_, rfl⟩
  refine WC.here (C := CC F Γ []) ?_ (hF ▸ hp.start)
  refine WC.rs ?_
  refine e_box (v := .string name) rfl rfl rfl rfl (by kernel_rfl) ?_
  intro g1
  refine e_box (v := .slice Ab b.length cb) rfl rfl rfl rfl (by kernel_rfl) ?_
  intro g2
  refine va rfl rfl rfl (q_assign (v := .nilFunc) rfl (by kernel_rfl)) ?_
  refine WR.nil ?_
  change WC _ _ _ _ _ _
  refine WC.rs ?_
  refine va rfl rfl rfl (q_mkfn (v := .func (.func 46) #[] #[.pointer (some ⟨g1, 0, none⟩), .pointer (some ⟨g2, 0, none⟩)]) rfl (by kernel_rfl)) ?_
  refine va rfl rfl rfl (q_assign (v := .func (.func 46) #[] #[.pointer (some ⟨g1, 0, none⟩), .pointer (some ⟨g2, 0, none⟩)]) rfl (by kernel_rfl)) ?_
  refine WR.nil ?_
  change WC _ _ _ _ _ _
  refine WC.ret ?_
  intro w hw
  obtain ⟨Γ3, hw, hl4, hr5⟩ := hw.seal (i := 1) rfl
  have hg6 := hr5 _ (List.mem_singleton.2 rfl)
  obtain ⟨Γ7, hw, hl8, hr9⟩ := hw.seal (i := 0) rfl
  have hg10 := hr9 _ (List.mem_singleton.2 rfl)
  have hf11 : Cdisk_change_do.ok Γ7 (some ⟨g2, 0, none⟩) g1 (Cdisk_change_do.disk_add_1 name b) := ⟨⟨(hl8 _ _ hg6), hname⟩, ⟨g2, Ab, cb, rfl, hg10, hbc, (hb.mono (hl4.trans hl8))⟩, trivial⟩
  obtain rfl := Option.some.inj h
  subst hF
  exact end_e (is := []) (by kernel_rfl) hw rfl ⟨(some ⟨g2, 0, none⟩), g1, rfl, rfl, hf11, trivial⟩
abbrev r_disk_Disk_Rename_1 (mf_ : Nat) (r : List (ByteArray × (List UInt8))) (U : List Rowb) (Γ : Gh) (v : Value) : Prop := ∃ (rowf_' : Rowb), v = .tuple #[] ∧ U = [rowf_'] ∧ MapO (strK Try.underlying9) (slT byteT).v Γ rowf_' mf_ r ∧ True
set_option maxRecDepth 100000 in
set_option maxHeartbeats 400000 in
theorem t_disk_Disk_Rename_1 {Γ : Gh} {w0 : World} {mf_ : Nat} {rowf_ : Rowb} {f_ : List (ByteArray × (List UInt8))} (hf_ : MapO (strK Try.underlying9) (slT byteT).v Γ rowf_ mf_ f_) {gb0 : Nat} (b0 : ByteArray) (hb0_0 : Γ gb0 = some (.cells #[.string b0] 9 (0, 0))) (hb0_1 : b0.size ≤ lim) {gb1 : Nat} (b1 : ByteArray) (hb1_0 : Γ gb1 = some (.cells #[.string b1] 9 (0, 0))) (hb1_1 : b1.size ≤ lim) (hp : Pre [rowf_] Γ w0) {r : List (ByteArray × (List UInt8))} (h : m_disk_Disk_Rename_1 f_ b0 b1 = some r) : Calls Try.prog 32 #[.map (some mf_), .pointer (some ⟨gb0, 0, none⟩), .pointer (some ⟨gb1, 0, none⟩)] w0 (Outc Γ [rowf_] w0 (r_disk_Disk_Rename_1 mf_ r)) := by
  refine calls_of (N := 13) (rs := []) (args := [.map (some mf_), .pointer (some ⟨gb0, 0, none⟩), .pointer (some ⟨gb1, 0, none⟩)]) Try.func32 rfl Try.ntmps32 Try.results32 rfl ?_
  obtain ⟨F, hF⟩ : ∃ F : Fm, F = ⟨ids [rowf_], w0, Γ⟩ := ⟨_, rfl⟩
  refine WC.here (C := CC F Γ [rowf_]) ?_ (hF ▸ hp.start)
  refine WC.rs ?_
  refine va rfl rfl rfl (q_move (v := .map (some mf_)) rfl (by kernel_rfl)) ?_
  refine va rfl rfl rfl (q_ldg (v := .string b0) hb0_0 rfl Try.isAgg9 rfl rfl) ?_
  obtain ⟨v1, ⟨A4, c5, hv2, hc6, hs7⟩, hat3⟩ := MapO.look hf_ b0 (z := .slice none 0 0) (zx := []) ⟨none, 0, rfl, Nat.zero_le _, Sl.nil _ _ _⟩
  obtain rfl : v1 = _ := List.cons.inj hv2 |>.1
  refine va rfl rfl rfl (q_lookup1 (v := .slice A4 ((mget b0 f_).getD []).length c5) hat3 rfl Try.underlying58 Try.zeroValue22 rfl rfl (i := 0) rfl) ?_
  refine va rfl rfl rfl (q_assign (v := .slice A4 ((mget b0 f_).getD []).length c5) rfl (by kernel_rfl)) ?_
  refine WR.nil ?_
  change WC _ _ _ _ _ _
  refine WC.rs ?_
  refine va rfl rfl rfl (q_move (v := .map (some mf_)) rfl (by kernel_rfl)) ?_
  refine va rfl rfl rfl (q_ldg (v := .string b0) hb0_0 rfl Try.isAgg9 rfl rfl) ?_
  refine e_delete (i := 0) (x := b0) rfl hf_ rfl rfl rfl Try.underlying58 rfl rfl ?_
  intro row8 hm9
  refine WR.nil ?_
  change WC _ _ _ _ _ _
  refine WC.region ?_
  refine va rfl rfl rfl (q_move (v := .map (some mf_)) rfl (by kernel_rfl)) ?_
  refine va rfl rfl rfl (q_ldg (v := .string b1) hb1_0 rfl Try.isAgg9 rfl rfl) ?_
  refine va rfl rfl rfl (q_move (v := .slice A4 ((mget b0 f_).getD []).length c5) rfl (by kernel_rfl)) ?_
  refine e_mapUpdate (i := 0) (x := b1) (v := .slice A4 ((mget b0 f_).getD []).length c5) (a := ((mget b0 f_).getD [])) rfl rfl rfl Try.underlying58 rfl rfl (by kernel_rfl) rfl hm9 (by exact ⟨A4, c5, rfl, hc6, hs7⟩) hb1_1 ?_
  intro row10 hm11
  refine WR.nil ?_
  intro w hw
  obtain rfl := Option.some.inj h
  subst hF
  exact end_e (is := [0]) (by kernel_rfl) hw rfl ⟨row10, rfl, rfl, hm11, trivial⟩
abbrev r_disk_Disk_Remove_1 (mf_ : Nat) (r : List (ByteArray × (List UInt8))) (U : List Rowb) (Γ : Gh) (v : Value) : Prop := ∃ (rowf_' : Rowb), v = .tuple #[] ∧ U = [rowf_'] ∧ MapO (strK Try.underlying9) (slT byteT).v Γ rowf_' mf_ r ∧ True
set_option maxRecDepth 100000 in
set_option maxHeartbeats 400000 in
theorem t_disk_Disk_Remove_1 {Γ : Gh} {w0 : World} {mf_ : Nat} {rowf_ : Rowb} {f_ : List (ByteArray × (List UInt8))} (hf_ : MapO (strK Try.underlying9) (slT byteT).v Γ rowf_ mf_ f_) {gb0 : Nat} (b0 : ByteArray) (hb0_0 : Γ gb0 = some (.cells #[.string b0] 9 (0, 0))) (hb0_1 : b0.size ≤ lim) (hp : Pre [rowf_] Γ w0) {r : List (ByteArray × (List UInt8))} (h : m_disk_Disk_Remove_1 f_ b0 = some r) : Calls Try.prog 35 #[.map (some mf_), .pointer (some ⟨gb0, 0, none⟩)] w0 (Outc Γ [rowf_] w0 (r_disk_Disk_Remove_1 mf_ r)) := by
  refine calls_of (N := 5) (rs := []) (args := [.map (some mf_), .pointer (some ⟨gb0, 0, none⟩)]) Try.func35 rfl Try.ntmps35 Try.results35 rfl ?_
  obtain ⟨F, hF⟩ : ∃ F : Fm, F = ⟨ids [rowf_], w0, Γ⟩ := ⟨_, rfl⟩
  refine WC.here (C := CC F Γ [rowf_]) ?_ (hF ▸ hp.start)
  refine WC.region ?_
  refine va rfl rfl rfl (q_move (v := .map (some mf_)) rfl (by kernel_rfl)) ?_
  refine va rfl rfl rfl (q_ldg (v := .string b0) hb0_0 rfl Try.isAgg9 rfl rfl) ?_
  refine e_delete (i := 0) (x := b0) rfl hf_ rfl rfl rfl Try.underlying58 rfl rfl ?_
  intro row1 hm2
  refine WR.nil ?_
  intro w hw
  obtain rfl := Option.some.inj h
  subst hF
  exact end_e (is := [0]) (by kernel_rfl) hw rfl ⟨row1, rfl, rfl, hm2, trivial⟩
set_option maxRecDepth 100000 in
set_option maxHeartbeats 400000 in
theorem t_slices_Clip_byte_byte {Γ : Gh} {w0 : World} {As_ : Option Addr} {cs_ : Nat} {s_ : List UInt8} (hs_ : Sl byteT Γ As_ s_) (hs_c : s_.length ≤ cs_) (hs : Sat Γ w0) {r : List UInt8} (h : m_slices_Clip_byte_byte s_ = some r) : Calls Try.prog 47 #[.slice As_ s_.length cs_] w0 (fun e w' => e = .returned (.slice As_ s_.length s_.length) ∧ Fr no w0 w') := by
  refine calls_of (N := 9) (rs := [2]) (args := [.slice As_ s_.length cs_]) Try.func47 rfl Try.ntmps47 Try.results47 rfl ?_
  obtain ⟨F, hF⟩ : ∃ F : Fm, F = ⟨no, w0, Γ⟩ := ⟨_, rfl⟩
  refine WC.here (C := CC F Γ []) ?_ (hF ▸ Cur.start0 hs)
  refine WC.rs ?_
  refine va rfl rfl rfl (q_assign (v := .slice none 0 0) rfl (by kernel_rfl)) ?_
  refine WR.nil ?_
  change WC _ _ _ _ _ _
  refine WC.rs ?_
  refine va rfl rfl rfl (q_move (v := .slice As_ s_.length cs_) rfl (by kernel_rfl)) ?_
  refine va rfl rfl rfl (q_move (v := .slice As_ s_.length cs_) rfl (by kernel_rfl)) ?_
  refine va rfl rfl rfl (q_len_slice rfl Try.underlying22 rfl) ?_
  refine va rfl rfl rfl (q_move (v := .slice As_ s_.length cs_) rfl (by kernel_rfl)) ?_
  refine va rfl rfl rfl (q_len_slice rfl Try.underlying22 rfl) ?_
  refine va rfl rfl rfl (q_clip (T := byteT) (xs := s_) Try.underlying22 Try.sizeOf5 rfl rfl rfl rfl hs_c) ?_
  refine va rfl rfl rfl (q_assign (v := .slice As_ s_.length s_.length) rfl (by kernel_rfl)) ?_
  refine WR.nil ?_
  change WC _ _ _ _ _ _
  refine WC.ret ?_
  intro w hw
  obtain rfl := Option.some.inj h
  subst hF
  exact ⟨by kernel_rfl, hw.fr⟩
abbrev r_disk_add_1 (mf_ : Nat) (r : List (ByteArray × (List UInt8))) (U : List Rowb) (Γ : Gh) (v : Value) : Prop := ∃ (rowf_' : Rowb), v = .tuple #[] ∧ U = [rowf_'] ∧ MapO (strK Try.underlying9) (slT byteT).v Γ rowf_' mf_ r ∧ True
set_option maxRecDepth 100000 in
set_option maxHeartbeats 400000 in
theorem t_disk_add_1 {Γ : Gh} {w0 : World} {mf_ : Nat} {rowf_ : Rowb} {f_ : List (ByteArray × (List UInt8))} (hf_ : MapO (strK Try.underlying9) (slT byteT).v Γ rowf_ mf_ f_) {gb0 : Nat} (b0 : ByteArray) (hb0_0 : Γ gb0 = some (.cells #[.string b0] 9 (0, 0))) (hb0_1 : b0.size ≤ lim) {gb1 : Nat} {Ab1_0 : Option Addr} {cb1_0 : Nat} (b1 : (List UInt8)) (hb1_0 : Γ gb1 = some (.cells #[.slice Ab1_0 b1.length cb1_0] 22 (0, 0))) (hb1_1 : b1.length ≤ cb1_0) (hb1_2 : Sl byteT Γ Ab1_0 b1) (hp : Pre [rowf_] Γ w0) {r : List (ByteArray × (List UInt8))} (h : m_disk_add_1 f_ b0 b1 = some r) : Calls Try.prog 46 #[.map (some mf_), .pointer (some ⟨gb0, 0, none⟩), .pointer (some ⟨gb1, 0, none⟩)] w0 (Outc Γ [rowf_] w0 (r_disk_add_1 mf_ r)) := by
  refine calls_of (N := 12) (rs := []) (args := [.map (some mf_), .pointer (some ⟨gb0, 0, none⟩), .pointer (some ⟨gb1, 0, none⟩)]) Try.func46 rfl Try.ntmps46 Try.results46 rfl ?_
  obtain ⟨F, hF⟩ : ∃ F : Fm, F = ⟨ids [rowf_], w0, Γ⟩ := ⟨_, rfl⟩
  refine WC.here (C := CC F Γ [rowf_]) ?_ (hF ▸ hp.start)
  intro w hw; have h01 := hw.le
  refine WC.here (C := CC F Γ [rowf_]) ?_ hw; clear hw
  refine WC.held (CC F Γ []) (by kernel_rfl) (fun w hw => hw.drawn _) ?_
  change WH _ _ _ _ (CC F Γ [rowf_]) _ 9 #[false, false, false, false, false, false, false, false, false] _
  refine ht (i := 0) rfl (by kernel_rfl) rfl rfl rfl (fun w hw => hw.back (Gh.refl _) h01 (.cons _ .slnil)) (q_move (v := .map (some mf_)) rfl (by kernel_rfl)) ?_
  refine ht (i := 1) rfl (by kernel_rfl) rfl rfl rfl (fun w hw => hw.back (Gh.refl _) h01 (.cons _ .slnil)) (q_ldg (v := .string b0) hb0_0 rfl Try.isAgg9 rfl rfl) ?_
  refine ht (i := 2) rfl (by kernel_rfl) rfl rfl rfl (fun w hw => hw.back (Gh.refl _) h01 (.cons _ .slnil)) (q_move (v := .map (some mf_)) rfl (by kernel_rfl)) ?_
  refine ht (i := 3) rfl (by kernel_rfl) rfl rfl rfl (fun w hw => hw.back (Gh.refl _) h01 (.cons _ .slnil)) (q_ldg (v := .string b0) hb0_0 rfl Try.isAgg9 rfl rfl) ?_
  refine ht (i := 6) rfl (by kernel_rfl) rfl rfl rfl (fun w hw => hw.back (Gh.refl _) h01 (.cons _ .slnil)) (q_ldg (v := .slice Ab1_0 b1.length cb1_0) hb1_0 rfl Try.isAgg22 rfl rfl) ?_
  refine WH.lone (i := 4) (by kernel_rfl) rfl ?_
  obtain ⟨v2, ⟨A5, c6, hv3, hc7, hs8⟩, hat4⟩ := MapO.look hf_ b0 (z := .slice none 0 0) (zx := []) ⟨none, 0, rfl, Nat.zero_le _, Sl.nil _ _ _⟩
  obtain rfl : v2 = _ := List.cons.inj hv3 |>.1
  refine va rfl rfl rfl (q_lookup1 (v := .slice A5 ((mget b0 f_).getD []).length c6) hat4 rfl Try.underlying58 Try.zeroValue22 rfl rfl (i := 0) rfl) ?_
  refine WR.nil ?_
  refine WH.next (fun w hw => hw.back (Gh.refl _) h01 (.cons _ .slnil)) ?_
  refine WH.lone (i := 5) (by kernel_rfl) rfl ?_
  obtain ⟨z9, hz10, h⟩ := bnd h
  refine vc rfl rfl rfl (q_call (call_run Try.call47 rfl rfl (by kernel_rfl)) (fun w hw => t_slices_Clip_byte_byte (Γ := Gh.all w) (hs8.mono hw.sat.le_all) hc7 (Sat.all w) hz10)) ?_
  refine WR.nil ?_
  refine WH.next (fun w hw => hw.back (Gh.refl _) h01 (.cons _ .slnil)) ?_
  refine WH.lone (i := 7) (by kernel_rfl) rfl ?_
  obtain ⟨hk11, h⟩ := chk_some h
  refine e_append_clip (T := byteT) (xs := ((mget b0 f_).getD [])) (ys := b1) elem_22 rfl rfl rfl rfl rfl rfl hs8 (of_decide_eq_true hk11) (fun w hw => src_sl hb1_2 hw) ?_
  intro Γ12 A13 c14 hl15 hs16 hc17
  refine WR.nil ?_
  refine WH.next (fun w hw => hw.back hl15 h01 (.cons _ (.cons _ .slnil))) ?_
  refine WH.lone (i := 8) (by kernel_rfl) rfl ?_
  refine e_mapUpdate (i := 1) (x := b0) (v := .slice A13 (((mget b0 f_).getD []) ++ b1).length c14) (a := (((mget b0 f_).getD []) ++ b1)) rfl rfl rfl Try.underlying58 rfl rfl (by kernel_rfl) rfl (hf_.mono hl15) (by exact ⟨A13, c14, rfl, hc17, hs16⟩) hb0_1 ?_
  intro row18 hm19
  refine WR.nil ?_
  refine WH.next (fun w hw => hw.back hl15 h01 (.cons _ (.cons _ .slnil))) ?_
  refine WH.done (by kernel_rfl) ?_
  intro w hw
  obtain rfl := Option.some.inj h
  subst hF
  exact end_e (is := [1]) (by kernel_rfl) hw rfl ⟨row18, rfl, rfl, hm19, trivial⟩
abbrev r_disk_Disk_Cut_1 (mf_ : Nat) (r : List (ByteArray × (List UInt8))) (U : List Rowb) (Γ : Gh) (v : Value) : Prop := ∃ (rowf_' : Rowb), v = .tuple #[] ∧ U = [rowf_'] ∧ MapO (strK Try.underlying9) (slT byteT).v Γ rowf_' mf_ r ∧ True
set_option maxRecDepth 100000 in
set_option maxHeartbeats 400000 in
theorem t_disk_Disk_Cut_1 {Γ : Gh} {w0 : World} {mf_ : Nat} {rowf_ : Rowb} {f_ : List (ByteArray × (List UInt8))} (hf_ : MapO (strK Try.underlying9) (slT byteT).v Γ rowf_ mf_ f_) {gb0 : Nat} (b0 : ByteArray) (hb0_0 : Γ gb0 = some (.cells #[.string b0] 9 (0, 0))) (hb0_1 : b0.size ≤ lim) {gb1 : Nat} (b1 : Int) (hb1_0 : Γ gb1 = some (.cells #[.int .i64 b1] 3 (0, 0))) (hb1_1 : I64 b1) (hp : Pre [rowf_] Γ w0) {r : List (ByteArray × (List UInt8))} (h : m_disk_Disk_Cut_1 f_ b0 b1 = some r) : Calls Try.prog 53 #[.map (some mf_), .pointer (some ⟨gb0, 0, none⟩), .pointer (some ⟨gb1, 0, none⟩)] w0 (Outc Γ [rowf_] w0 (r_disk_Disk_Cut_1 mf_ r)) := by
  refine calls_of (N := 11) (rs := []) (args := [.map (some mf_), .pointer (some ⟨gb0, 0, none⟩), .pointer (some ⟨gb1, 0, none⟩)]) Try.func53 rfl Try.ntmps53 Try.results53 rfl ?_
  obtain ⟨F, hF⟩ : ∃ F : Fm, F = ⟨ids [rowf_], w0, Γ⟩ := ⟨_, rfl⟩
  refine WC.here (C := CC F Γ [rowf_]) ?_ (hF ▸ hp.start)
  intro w hw; have h01 := hw.le
  refine WC.here (C := CC F Γ [rowf_]) ?_ hw; clear hw
  refine WC.held (CC F Γ []) (by kernel_rfl) (fun w hw => hw.drawn _) ?_
  change WH _ _ _ _ (CC F Γ [rowf_]) _ 8 #[false, false, false, false, false, false, false, false] _
  refine ht (i := 0) rfl (by kernel_rfl) rfl rfl rfl (fun w hw => hw.back (Gh.refl _) h01 (.cons _ .slnil)) (q_move (v := .map (some mf_)) rfl (by kernel_rfl)) ?_
  refine ht (i := 1) rfl (by kernel_rfl) rfl rfl rfl (fun w hw => hw.back (Gh.refl _) h01 (.cons _ .slnil)) (q_ldg (v := .string b0) hb0_0 rfl Try.isAgg9 rfl rfl) ?_
  refine ht (i := 2) rfl (by kernel_rfl) rfl rfl rfl (fun w hw => hw.back (Gh.refl _) h01 (.cons _ .slnil)) (q_move (v := .map (some mf_)) rfl (by kernel_rfl)) ?_
  refine ht (i := 3) rfl (by kernel_rfl) rfl rfl rfl (fun w hw => hw.back (Gh.refl _) h01 (.cons _ .slnil)) (q_ldg (v := .string b0) hb0_0 rfl Try.isAgg9 rfl rfl) ?_
  refine ht (i := 5) rfl (by kernel_rfl) rfl rfl rfl (fun w hw => hw.back (Gh.refl _) h01 (.cons _ .slnil)) (q_ldg (v := .int .i64 b1) hb1_0 rfl Try.isAgg3 rfl rfl) ?_
  refine WH.lone (i := 4) (by kernel_rfl) rfl ?_
  obtain ⟨v2, ⟨A5, c6, hv3, hc7, hs8⟩, hat4⟩ := MapO.look hf_ b0 (z := .slice none 0 0) (zx := []) ⟨none, 0, rfl, Nat.zero_le _, Sl.nil _ _ _⟩
  obtain rfl : v2 = _ := List.cons.inj hv3 |>.1
  refine va rfl rfl rfl (q_lookup1 (v := .slice A5 ((mget b0 f_).getD []).length c6) hat4 rfl Try.underlying58 Try.zeroValue22 rfl rfl (i := 0) rfl) ?_
  refine WR.nil ?_
  refine WH.next (fun w hw => hw.back (Gh.refl _) h01 (.cons _ .slnil)) ?_
  obtain ⟨hk9, h⟩ := chk_some h
  refine ht (i := 6) rfl (by kernel_rfl) rfl rfl rfl (fun w hw => hw.back (Gh.refl _) h01 (.cons _ .slnil)) (q_cut_to (c := c6) (hi := b1.toNat) (xs := ((mget b0 f_).getD [])) Try.underlying22 Try.sizeOf5 rfl rfl (inle_eq rfl hk9) (inle_le hk9) hc7) ?_
  refine WH.lone (i := 7) (by kernel_rfl) rfl ?_
  refine e_mapUpdate (i := 0) (x := b0) (v := .slice A5 (List.take b1.toNat ((mget b0 f_).getD [])).length c6) (a := (List.take b1.toNat ((mget b0 f_).getD []))) rfl rfl rfl Try.underlying58 rfl rfl (by kernel_rfl) rfl hf_ (by exact ⟨A5, c6, rfl, (take_cap hc7 b1.toNat), (hs8.cut_to (hi := b1.toNat) (inle_le hk9))⟩) hb0_1 ?_
  intro row10 hm11
  refine WR.nil ?_
  refine WH.next (fun w hw => hw.back (Gh.refl _) h01 (.cons _ .slnil)) ?_
  refine WH.done (by kernel_rfl) ?_
  intro w hw
  obtain rfl := Option.some.inj h
  subst hF
  exact end_e (is := [0]) (by kernel_rfl) hw rfl ⟨row10, rfl, rfl, hm11, trivial⟩
theorem t_call_Cdisk_change_do {Γ : Gh} {x : Cdisk_change_do} {A : Option Addr} {c : Nat} (hx : Cdisk_change_do.ok Γ A c x) {mf_ : Nat} {rowf_ : Rowb} {f_ : List (ByteArray × (List UInt8))} (hf_ : MapO (strK Try.underlying9) (slT byteT).v Γ rowf_ mf_ f_) {r : List (ByteArray × (List UInt8))} (h : m_call_Cdisk_change_do x f_ = some r) : ∃ fd caps, Cdisk_change_do.val x A c = .func (.func fd) #[] caps ∧ (∀ (args : Array Value) (w : World), (callFunc fd args).run Try.prog w = .ok (.enter fd args) w) ∧ ∀ w0, Pre [rowf_] Γ w0 → Calls Try.prog fd (#[.map (some mf_)] ++ caps) w0 (Outc Γ [rowf_] w0 (r_disk_Disk_Rename_1 mf_ r)) := by
  cases x with
  | disk_Disk_Rename_1 a0 a1 =>
    obtain ⟨⟨h0_0, h0_1⟩, ⟨g1, rfl, h1_0, h1_1⟩, -⟩ := hx
    exact ⟨_, _, rfl, Try.call32, fun w0 hp => t_disk_Disk_Rename_1 hf_ a0 h0_0 h0_1 a1 h1_0 h1_1 hp h⟩
  | disk_Disk_Remove_1 a0 =>
    obtain ⟨⟨h0_0, h0_1⟩, -⟩ := hx
    exact ⟨_, _, rfl, Try.call35, fun w0 hp => t_disk_Disk_Remove_1 hf_ a0 h0_0 h0_1 hp h⟩
  | disk_add_1 a0 a1 =>
    obtain ⟨⟨h0_0, h0_1⟩, ⟨g1, A1_0, c1_0, rfl, h1_0, h1_1, h1_2⟩, -⟩ := hx
    exact ⟨_, _, rfl, Try.call46, fun w0 hp => t_disk_add_1 hf_ a0 h0_0 h0_1 a1 h1_0 h1_1 h1_2 hp h⟩
  | disk_Disk_Cut_1 a0 a1 =>
    obtain ⟨⟨h0_0, h0_1⟩, ⟨g1, rfl, h1_0, h1_1⟩, -⟩ := hx
    exact ⟨_, _, rfl, Try.call53, fun w0 hp => t_disk_Disk_Cut_1 hf_ a0 h0_0 h0_1 a1 h1_0 h1_1 hp h⟩
abbrev r_disk_Disk_done (gd ed : Nat) (r : Odisk_Disk × Int) (U : List Rowb) (Γ : Gh) (v : Value) : Prop := ∃ (rowd' : Rowb), v = .int .i64 r.2 ∧ U = [rowd'] ∧ Odisk_Disk.ob ed Γ gd rowd' r.1 ∧ I64 r.2 ∧ True
set_option maxRecDepth 100000 in
set_option maxHeartbeats 400000 in
theorem t_disk_Disk_done {Γ : Gh} {w0 : World} {gd ed : Nat} {rowd : Rowb} {d : Odisk_Disk} (hd : Odisk_Disk.ob ed Γ gd rowd d) {Ac_0 : Option Addr} {cc_0 : Nat} {Ac_2 : Option Addr} {cc_2 : Nat} (c_ : Ddisk_change) (hc_ : Ddisk_change.fits Γ Ac_0 cc_0 Ac_2 cc_2 c_) (hp : Pre [rowd] Γ w0) {r : Odisk_Disk × Int} (h : m_disk_Disk_done d c_ = some r) : Calls Try.prog 28 #[.pointer (some ⟨gd, 0, none⟩), .agg #[(Cdisk_change_do.val c_.do_ Ac_0 cc_0), .string c_.name, .slice Ac_2 c_.tail.length cc_2]] w0 (Outc Γ [rowd] w0 (r_disk_Disk_done gd ed r)) := by
  refine calls_of (N := 22) (rs := [4]) (args := [.pointer (some ⟨gd, 0, none⟩), .agg #[(Cdisk_change_do.val c_.do_ Ac_0 cc_0), .string c_.name, .slice Ac_2 c_.tail.length cc_2]]) Try.func28 rfl Try.ntmps28 Try.results28 rfl ?_
  obtain ⟨F, hF⟩ : ∃ F : Fm, F = ⟨ids [rowd], w0, Γ⟩ := ⟨_, rfl⟩
  refine WC.here (C := CC F Γ [rowd]) ?_ (hF ▸ hp.start)
  refine WC.rs ?_
  refine e_box (v := .agg #[(Cdisk_change_do.val c_.do_ Ac_0 cc_0), .string c_.name, .slice Ac_2 c_.tail.length cc_2]) rfl rfl rfl rfl (by kernel_rfl) ?_
  intro g1
  refine va rfl rfl rfl (q_assign (v := .int .i64 0) rfl (by kernel_rfl)) ?_
  refine WR.nil ?_
  change WC _ _ _ _ _ _
  refine WC.seq ?_
  intro w hw; have h02 := hw.le
  refine WC.here (C := CC F Γ [[(g1, .cells #[(Cdisk_change_do.val c_.do_ Ac_0 cc_0), .string c_.name, .slice Ac_2 c_.tail.length cc_2] 68 (0, 0))], rowd]) ?_ hw; clear hw
  refine WC.held (CC F Γ [[(g1, .cells #[(Cdisk_change_do.val c_.do_ Ac_0 cc_0), .string c_.name, .slice Ac_2 c_.tail.length cc_2] 68 (0, 0))]]) (by kernel_rfl) (fun w hw => hw.drawn _) ?_
  change WH _ _ _ _ (CC F Γ [[(g1, .cells #[(Cdisk_change_do.val c_.do_ Ac_0 cc_0), .string c_.name, .slice Ac_2 c_.tail.length cc_2] 68 (0, 0))], rowd]) _ 7 #[false, false, false, false, false, false, false] _
  refine ht (i := 0) rfl (by kernel_rfl) rfl rfl rfl (fun w hw => hw.back (Gh.refl _) h02 (.cons_cons _ (.cons _ .slnil))) (q_fl 0 fld_68_0 rfl rfl rfl) ?_
  refine ht (i := 1) rfl (by kernel_rfl) rfl rfl rfl (fun w hw => hw.back (Gh.refl _) h02 (.cons_cons _ (.cons _ .slnil))) (q_ldl (i := 0) (v := (Cdisk_change_do.val c_.do_ Ac_0 cc_0)) rfl rfl Try.isAgg65 rfl rfl) ?_
  refine ht (i := 2) rfl (by kernel_rfl) rfl rfl rfl (fun w hw => hw.back (Gh.refl _) h02 (.cons_cons _ (.cons _ .slnil))) (q_move (v := .pointer (some ⟨gd, 0, none⟩)) rfl (by kernel_rfl)) ?_
  refine ht (i := 3) rfl (by kernel_rfl) rfl rfl rfl (fun w hw => hw.back (Gh.refl _) h02 (.cons_cons _ (.cons _ .slnil))) (q_nil (A := some ⟨gd, 0, none⟩) rfl rfl rfl) ?_
  refine ht (i := 4) rfl (by kernel_rfl) rfl rfl rfl (fun w hw => hw.back (Gh.refl _) h02 (.cons_cons _ (.cons _ .slnil))) (q_fl 2 fld_61_2 rfl rfl rfl) ?_
  refine WH.lone (i := 5) (by kernel_rfl) rfl ?_
  have hq := hd
  obtain ⟨m1_3, r1_3, m2_3, r2_3, A3_3, c3_3, r3_3, hrow_3, ho0_3, ho1_3, ho2_3, ho3_3, -⟩ := hq
  intro w hw; have hw := hw.unfold (i := 1) rfl hrow_3
  refine WR.here (C := CC F Γ [[(gd, .cells #[.int .i64 d.room, .map (some m1_3), .map (some m2_3), .slice A3_3 d.loose.length c3_3] ed (0, 0))], r1_3, r2_3, r3_3, [(g1, .cells #[(Cdisk_change_do.val c_.do_ Ac_0 cc_0), .string c_.name, .slice Ac_2 c_.tail.length cc_2] 68 (0, 0))]]) ?_ hw
  clear hw
  refine va rfl rfl rfl (q_ldl (i := 0) (v := .map (some m2_3)) rfl rfl Try.isAgg58 rfl rfl) ?_
  refine WR.nil ?_
  refine WH.next (fun w hw => hw.back (Gh.refl _) h02 (.cons _ (.cons _ (.cons _ (.cons _ (.cons_cons _ .slnil)))))) ?_
  refine WH.lone (i := 6) (by kernel_rfl) rfl ?_
  obtain ⟨z4, hz5, h⟩ := bnd h
  obtain ⟨fd6, cp7, hv8, he9, hcl10⟩ := t_call_Cdisk_change_do (x := c_.do_) hc_.1 ho2_3 hz5
  refine e_call (is := [2]) rfl rfl (call_run_fv (caps := cp7) (args := #[.map (some m2_3)] ++ cp7) he9 rfl (Eq.trans (b := (Cdisk_change_do.val c_.do_ Ac_0 cc_0)) (by kernel_rfl) hv8) (by kernel_rfl)) rfl (fun w hp => (by exact hcl10 w hp)) ?_
  rintro Γ11 U13 v14 hl12 ⟨row15, rfl, rfl, hr16, _⟩
  change WR _ _ _ (CC F Γ11 [row15, [(gd, .cells #[.int .i64 d.room, .map (some m1_3), .map (some m2_3), .slice A3_3 d.loose.length c3_3] ed (0, 0))], r1_3, r3_3, [(g1, .cells #[(Cdisk_change_do.val c_.do_ Ac_0 cc_0), .string c_.name, .slice Ac_2 c_.tail.length cc_2] 68 (0, 0))]]) _ _ (upd _ 11 (.tuple #[]))
  refine WR.nil ?_
  refine WH.next (fun w hw => hw.back hl12 h02 (.cons _ (.cons _ (.cons _ (.cons _ (.cons_cons _ .slnil)))))) ?_
  refine WH.done (by kernel_rfl) ?_
  change WC _ _ _ _ _ _
  refine WC.seq ?_
  intro w hw; have h017 := hw.le
  refine WC.here (C := CC F Γ11 [row15, [(gd, .cells #[.int .i64 d.room, .map (some m1_3), .map (some m2_3), .slice A3_3 d.loose.length c3_3] ed (0, 0))], r1_3, r3_3, [(g1, .cells #[(Cdisk_change_do.val c_.do_ Ac_0 cc_0), .string c_.name, .slice Ac_2 c_.tail.length cc_2] 68 (0, 0))]]) ?_ hw; clear hw
  refine WC.held (CC F Γ11 [[(g1, .cells #[(Cdisk_change_do.val c_.do_ Ac_0 cc_0), .string c_.name, .slice Ac_2 c_.tail.length cc_2] 68 (0, 0))]]) (by kernel_rfl) (fun w hw => hw.drawn _) ?_
  change WH _ _ _ _ (CC F Γ11 [row15, [(gd, .cells #[.int .i64 d.room, .map (some m1_3), .map (some m2_3), .slice A3_3 d.loose.length c3_3] ed (0, 0))], r1_3, r3_3, [(g1, .cells #[(Cdisk_change_do.val c_.do_ Ac_0 cc_0), .string c_.name, .slice Ac_2 c_.tail.length cc_2] 68 (0, 0))]]) _ 11 #[false, false, false, false, false, false, false, false, false, false, false] _
  refine ht (i := 0) rfl (by kernel_rfl) rfl rfl rfl (fun w hw => hw.back (Gh.refl _) h017 (.cons _ (.cons _ (.cons _ (.cons _ (.cons_cons _ .slnil)))))) (q_move (v := .pointer (some ⟨gd, 0, none⟩)) rfl (by kernel_rfl)) ?_
  refine ht (i := 1) rfl (by kernel_rfl) rfl rfl rfl (fun w hw => hw.back (Gh.refl _) h017 (.cons _ (.cons _ (.cons _ (.cons _ (.cons_cons _ .slnil)))))) (q_move (v := .pointer (some ⟨gd, 0, none⟩)) rfl (by kernel_rfl)) ?_
  refine ht (i := 2) rfl (by kernel_rfl) rfl rfl rfl (fun w hw => hw.back (Gh.refl _) h017 (.cons _ (.cons _ (.cons _ (.cons _ (.cons_cons _ .slnil)))))) (q_nil (A := some ⟨gd, 0, none⟩) rfl rfl rfl) ?_
  refine ht (i := 3) rfl (by kernel_rfl) rfl rfl rfl (fun w hw => hw.back (Gh.refl _) h017 (.cons _ (.cons _ (.cons _ (.cons _ (.cons_cons _ .slnil)))))) (q_fl 3 fld_61_3 rfl rfl rfl) ?_
  refine ht (i := 5) rfl (by kernel_rfl) rfl rfl rfl (fun w hw => hw.back (Gh.refl _) h017 (.cons _ (.cons _ (.cons _ (.cons _ (.cons_cons _ .slnil)))))) (q_ldla (i := 0) (vs := [(Cdisk_change_do.val c_.do_ Ac_0 cc_0), .string c_.name, .slice Ac_2 c_.tail.length cc_2]) rfl rfl Try.isAgg68 Try.sizeOf68 rfl rfl) ?_
  refine WH.each (l := [4, 6]) (by kernel_rfl) (by simp) ?_
  intro i hi; simp only [List.mem_cons, List.not_mem_nil, or_false] at hi
  rcases hi with rfl | rfl
  · refine ⟨_, rfl, ?_⟩
    refine va rfl rfl rfl (q_ldl (i := 1) (v := .slice A3_3 d.loose.length c3_3) rfl rfl Try.isAgg59 rfl rfl) ?_
    refine WR.nil ?_
    refine WH.next (fun w hw => hw.back (Gh.refl _) h017 (.cons _ (.cons _ (.cons _ (.cons _ (.cons_cons _ .slnil)))))) ?_
    refine WH.lone (i := 6) (by kernel_rfl) rfl ?_
    refine e_buildSlice (cs := #[(Cdisk_change_do.val c_.do_ Ac_0 cc_0), .string c_.name, .slice Ac_2 c_.tail.length cc_2]) (e := 68) rfl rfl rfl rfl (fun w => by kernel_rfl) ?_
    intro g18
    refine WR.nil ?_
    refine WH.next (fun w hw => hw.back (Gh.refl _) h017 (.cons _ (.cons _ (.cons _ (.cons _ (.cons _ (.cons_cons _ .slnil))))))) ?_
    refine WH.lone (i := 7) (by kernel_rfl) rfl ?_
    obtain ⟨hk19, h⟩ := chk_some h
    refine e_append (T := ddisk_changeT) (xs := d.loose) (ys := [c_]) elem_59 (i := 4) rfl rfl rfl rfl rfl rfl rfl (ho3_3.mono hl12) (of_decide_eq_true hk19) (fun w hw => src_one (T := ddisk_changeT) (y := c_) (i := 0) rfl (by exact ⟨Ac_0, cc_0, Ac_2, cc_2, rfl, (Ddisk_change.fits_mono hc_ hl12)⟩) hw) ?_
    intro row20 A21 c22 ho23
    refine WR.nil ?_
    refine WH.next (fun w hw => hw.back (Gh.refl _) h017 (.cons _ (.cons _ (.cons _ (.cons _ (.cons _ (.cons_cons _ .slnil))))))) ?_
    refine ht (i := 8) rfl (by kernel_rfl) rfl rfl rfl (fun w hw => hw.back (Gh.refl _) h017 (.cons _ (.cons _ (.cons _ (.cons _ (.cons _ (.cons_cons _ .slnil))))))) (q_nil (A := some ⟨gd, 0, none⟩) rfl rfl rfl) ?_
    refine ht (i := 9) rfl (by kernel_rfl) rfl rfl rfl (fun w hw => hw.back (Gh.refl _) h017 (.cons _ (.cons _ (.cons _ (.cons _ (.cons _ (.cons_cons _ .slnil))))))) (q_fl 3 fld_61_3 rfl rfl rfl) ?_
    refine WH.lone (i := 10) (by kernel_rfl) rfl ?_
    refine e_st (i := 2) (v := .slice A21 (d.loose ++ [c_]).length c22) (new := #[.int .i64 d.room, .map (some m1_3), .map (some m2_3), .slice A21 (d.loose ++ [c_]).length c22]) rfl Try.sizeOf59 rfl rfl rfl rfl (by kernel_rfl) rfl rfl rfl rfl ?_
    refine WR.nil ?_
    refine WH.next (fun w hw => hw.back (Gh.refl _) h017 (.cons _ (.cons _ (.cons _ (.cons _ (.cons _ (.cons_cons _ .slnil))))))) ?_
    refine WH.done (by kernel_rfl) ?_
    change WC _ _ _ _ _ _
    refine WC.rs ?_
    refine va rfl rfl rfl (q_assign (v := .int .i64 0) rfl (by kernel_rfl)) ?_
    refine WR.nil ?_
    change WC _ _ _ _ _ _
    refine WC.ret ?_
    intro w hw
    obtain ⟨row_24, hrow_24, hob_24⟩ : ∃ rw : Rowb, rw = ([[(gd, .cells #[.int .i64 d.room, .map (some m1_3), .map (some m2_3), .slice A21 (d.loose ++ [c_]).length c22] ed (0, 0))], r1_3, row15, row20] : List Rowb).flatten ∧ Odisk_Disk.ob ed Γ11 gd rw (⟨d.room, d.safe_, z4, (d.loose ++ [c_])⟩ : Odisk_Disk) := ⟨_, rfl, m1_3, r1_3, m2_3, row15, A21, c22, row20, rfl, ho0_3, (ho1_3.mono hl12), hr16, ho23, trivial⟩
    have hw := hw.fold (is := [2, 2, 1, 1]) rfl hrow_24
    obtain rfl := Option.some.inj h
    subst hF
    exact end_e (is := [0]) (by kernel_rfl) hw rfl ⟨row_24, rfl, rfl, hob_24, (show I64 0 by decide), trivial⟩
  · refine ⟨_, rfl, ?_⟩
    refine e_buildSlice (cs := #[(Cdisk_change_do.val c_.do_ Ac_0 cc_0), .string c_.name, .slice Ac_2 c_.tail.length cc_2]) (e := 68) rfl rfl rfl rfl (fun w => by kernel_rfl) ?_
    intro g18
    refine WR.nil ?_
    refine WH.next (fun w hw => hw.back (Gh.refl _) h017 (.cons _ (.cons _ (.cons _ (.cons _ (.cons _ (.cons_cons _ .slnil))))))) ?_
    refine WH.lone (i := 4) (by kernel_rfl) rfl ?_
    refine va rfl rfl rfl (q_ldl (i := 2) (v := .slice A3_3 d.loose.length c3_3) rfl rfl Try.isAgg59 rfl rfl) ?_
    refine WR.nil ?_
    refine WH.next (fun w hw => hw.back (Gh.refl _) h017 (.cons _ (.cons _ (.cons _ (.cons _ (.cons _ (.cons_cons _ .slnil))))))) ?_
    refine WH.lone (i := 7) (by kernel_rfl) rfl ?_
    obtain ⟨hk19, h⟩ := chk_some h
    refine e_append (T := ddisk_changeT) (xs := d.loose) (ys := [c_]) elem_59 (i := 4) rfl rfl rfl rfl rfl rfl rfl (ho3_3.mono hl12) (of_decide_eq_true hk19) (fun w hw => src_one (T := ddisk_changeT) (y := c_) (i := 0) rfl (by exact ⟨Ac_0, cc_0, Ac_2, cc_2, rfl, (Ddisk_change.fits_mono hc_ hl12)⟩) hw) ?_
    intro row20 A21 c22 ho23
    refine WR.nil ?_
    refine WH.next (fun w hw => hw.back (Gh.refl _) h017 (.cons _ (.cons _ (.cons _ (.cons _ (.cons _ (.cons_cons _ .slnil))))))) ?_
    refine ht (i := 8) rfl (by kernel_rfl) rfl rfl rfl (fun w hw => hw.back (Gh.refl _) h017 (.cons _ (.cons _ (.cons _ (.cons _ (.cons _ (.cons_cons _ .slnil))))))) (q_nil (A := some ⟨gd, 0, none⟩) rfl rfl rfl) ?_
    refine ht (i := 9) rfl (by kernel_rfl) rfl rfl rfl (fun w hw => hw.back (Gh.refl _) h017 (.cons _ (.cons _ (.cons _ (.cons _ (.cons _ (.cons_cons _ .slnil))))))) (q_fl 3 fld_61_3 rfl rfl rfl) ?_
    refine WH.lone (i := 10) (by kernel_rfl) rfl ?_
    refine e_st (i := 2) (v := .slice A21 (d.loose ++ [c_]).length c22) (new := #[.int .i64 d.room, .map (some m1_3), .map (some m2_3), .slice A21 (d.loose ++ [c_]).length c22]) rfl Try.sizeOf59 rfl rfl rfl rfl (by kernel_rfl) rfl rfl rfl rfl ?_
    refine WR.nil ?_
    refine WH.next (fun w hw => hw.back (Gh.refl _) h017 (.cons _ (.cons _ (.cons _ (.cons _ (.cons _ (.cons_cons _ .slnil))))))) ?_
    refine WH.done (by kernel_rfl) ?_
    change WC _ _ _ _ _ _
    refine WC.rs ?_
    refine va rfl rfl rfl (q_assign (v := .int .i64 0) rfl (by kernel_rfl)) ?_
    refine WR.nil ?_
    change WC _ _ _ _ _ _
    refine WC.ret ?_
    intro w hw
    obtain ⟨row_24, hrow_24, hob_24⟩ : ∃ rw : Rowb, rw = ([[(gd, .cells #[.int .i64 d.room, .map (some m1_3), .map (some m2_3), .slice A21 (d.loose ++ [c_]).length c22] ed (0, 0))], r1_3, row15, row20] : List Rowb).flatten ∧ Odisk_Disk.ob ed Γ11 gd rw (⟨d.room, d.safe_, z4, (d.loose ++ [c_])⟩ : Odisk_Disk) := ⟨_, rfl, m1_3, r1_3, m2_3, row15, A21, c22, row20, rfl, ho0_3, (ho1_3.mono hl12), hr16, ho23, trivial⟩
    have hw := hw.fold (is := [2, 2, 1, 1]) rfl hrow_24
    obtain rfl := Option.some.inj h
    subst hF
    exact end_e (is := [0]) (by kernel_rfl) hw rfl ⟨row_24, rfl, rfl, hob_24, (show I64 0 by decide), trivial⟩
abbrev r_disk_Disk_Append (gd ed : Nat) (r : Odisk_Disk × Int) (U : List Rowb) (Γ : Gh) (v : Value) : Prop := ∃ (rowd' : Rowb), v = .int .i64 r.2 ∧ U = [rowd'] ∧ Odisk_Disk.ob ed Γ gd rowd' r.1 ∧ I64 r.2 ∧ True
set_option maxRecDepth 100000 in
set_option maxHeartbeats 400000 in
theorem t_disk_Disk_Append {Γ : Gh} {w0 : World} {gd ed : Nat} {rowd : Rowb} {d : Odisk_Disk} (hd : Odisk_Disk.ob ed Γ gd rowd d) (name : ByteArray) (hname : name.size ≤ lim) {Ab : Option Addr} {cb : Nat} {b : List UInt8} (hb : Sl byteT Γ Ab b) (hbc : b.length ≤ cb) (hp : Pre [rowd] Γ w0) {r : Odisk_Disk × Int} (h : m_disk_Disk_Append d name b = some r) : Calls Try.prog 11 #[.pointer (some ⟨gd, 0, none⟩), .string name, .slice Ab b.length cb] w0 (Outc Γ [rowd] w0 (r_disk_Disk_Append gd ed r)) := by
  refine calls_of (N := 31) (rs := [6]) (args := [.pointer (some ⟨gd, 0, none⟩), .string name, .slice Ab b.length cb]) Try.func11 rfl Try.ntmps11 Try.results11 rfl ?_
  obtain ⟨F, hF⟩ : ∃ F : Fm, F = ⟨ids [rowd], w0, Γ⟩ := ⟨_, rfl⟩
  refine WC.here (C := CC F Γ [rowd]) ?_ (hF ▸ hp.start)
  refine WC.rs ?_
  refine va rfl rfl rfl (q_assign (v := .int .i64 0) rfl (by kernel_rfl)) ?_
  refine WR.nil ?_
  change WC _ _ _ _ _ _
  refine WC.seq ?_
  refine WC.rs ?_
  refine va rfl rfl rfl (q_move (v := .string name) rfl (by kernel_rfl)) ?_
  refine e_buildSlice (cs := #[.string name]) (e := 9) rfl rfl rfl rfl (fun w => by kernel_rfl) ?_
  intro g1
  have ho2 : Own strT Γ 9 [(g1, .cells #[.string name] 9 (0, 0))] (some ⟨g1, 0, none⟩) 1 [name] := Own.of_block (T := strT) (ys := [name]) [[.string name]] rfl rfl (show 1 ≤ lim by decide) (fun i h => match i, h with | 0, _ => (show Ty.rd strT Γ [.string name] name from ⟨rfl, hname⟩))
  obtain ⟨z3, hz4, h⟩ := bnd h
  refine vc rfl rfl rfl (q_call (call_run Try.call26 rfl rfl (by kernel_rfl)) (fun w hw => t_disk_right (Γ := Gh.all w) (ho2.sl hw.sat.le_all (hw.ra 0 rfl)) ho2.capz (Sat.all w) hz4)) ?_
  refine va rfl rfl rfl (q_not rfl rfl) ?_
  refine WR.nil ?_
  change WC _ _ _ _ _ _
  refine WC.cif h (by kernel_rfl) (fun hb5 h => ?_) (fun hb5 h => ?_)
  · skip
    refine WC.rs ?_
    refine va rfl rfl rfl (q_assign (v := .int .i64 70) rfl (by kernel_rfl)) ?_
    refine WR.nil ?_
    change WC _ _ _ _ _ _
    refine WC.ret ?_
    intro w hw
    obtain rfl := Option.some.inj h
    subst hF
    exact end_e (is := [1]) (by kernel_rfl) hw rfl ⟨rowd, rfl, rfl, hd, (show I64 70 by decide), trivial⟩
  · skip
    refine WC.skip ?_
    change WC _ _ _ _ _ _
    refine WC.seq ?_
    refine WC.seq ?_
    have hq := hd
    obtain ⟨m1_6, r1_6, m2_6, r2_6, A3_6, c3_6, r3_6, hrow_6, ho0_6, ho1_6, ho2_6, ho3_6, -⟩ := hq
    intro w hw; have hw := hw.unfold (i := 1) rfl hrow_6
    refine WC.here (C := CC F Γ [[(gd, .cells #[.int .i64 d.room, .map (some m1_6), .map (some m2_6), .slice A3_6 d.loose.length c3_6] ed (0, 0))], r1_6, r2_6, r3_6, [(g1, .cells #[.string name] 9 (0, 0))]]) ?_ hw
    clear hw
    refine WC.dr (by kernel_rfl) (by kernel_rfl) (fun w hw => hw.drawn _) ?_
    refine wa rfl rfl rfl (q_move (v := .slice Ab b.length cb) rfl (by kernel_rfl)) ?_
    refine wa rfl rfl rfl (q_len_slice rfl Try.underlying22 rfl) ?_
    refine wa rfl rfl rfl (q_move (v := .pointer (some ⟨gd, 0, none⟩)) rfl (by kernel_rfl)) ?_
    refine wa rfl rfl rfl (q_nil (A := some ⟨gd, 0, none⟩) rfl rfl rfl) ?_
    refine wa rfl rfl rfl (q_fl 0 fld_61_0 rfl rfl rfl) ?_
    refine wa rfl rfl rfl (q_ldl (i := 0) (v := .int .i64 d.room) rfl rfl Try.isAgg3 rfl rfl) ?_
    refine wa rfl rfl rfl (q_move (v := .pointer (some ⟨gd, 0, none⟩)) rfl (by kernel_rfl)) ?_
    obtain ⟨z7, hz8, h⟩ := bnd h
    refine wc rfl rfl rfl (q_call (call_run Try.call18 rfl rfl (by kernel_rfl)) (fun w hw => t_disk_Disk_Used (Γ := Gh.all w) (hd.mono hw.sat.le_all) (hw.raU [0, 0, 0, 0] rfl hrow_6) (Sat.all w) hz8)) ?_
    refine wa rfl rfl rfl (q_sub rfl rfl rfl) ?_
    refine wa rfl rfl rfl (q_gtr rfl rfl rfl) ?_
    refine WQ.nil ?_
    change WC _ _ _ _ _ _
    refine WC.cif h (by kernel_rfl) (fun hb9 h => ?_) (fun hb9 h => ?_)
    · skip
      refine WC.rs ?_
      refine va rfl rfl rfl (q_assign (v := .int .i64 72) rfl (by kernel_rfl)) ?_
      refine WR.nil ?_
      change WC _ _ _ _ _ _
      refine WC.ret ?_
      intro w hw
      have hw := hw.fold (is := [0, 0, 0, 0]) rfl hrow_6
      obtain rfl := Option.some.inj h
      subst hF
      exact end_e (is := [0]) (by kernel_rfl) hw rfl ⟨rowd, rfl, rfl, hd, (show I64 72 by decide), trivial⟩
    · skip
      refine WC.skip ?_
      change WC _ _ _ _ _ _
      refine WC.rs ?_
      refine va rfl rfl rfl (q_move (v := .slice Ab b.length cb) rfl (by kernel_rfl)) ?_
      obtain ⟨z11, hz12, h⟩ := bnd h
      refine e_call (is := []) rfl rfl (call_run Try.call27 rfl rfl (by kernel_rfl)) rfl (fun w hp => t_slices_Clone_byte_byte hb hbc hp hz12) ?_
      rintro Γ13 U15 v16 hl14 ⟨A17, c18, row19, rfl, rfl, hr20, _⟩
      change WR _ _ _ (CC F Γ13 [row19, [(gd, .cells #[.int .i64 d.room, .map (some m1_6), .map (some m2_6), .slice A3_6 d.loose.length c3_6] ed (0, 0))], r1_6, r2_6, r3_6, [(g1, .cells #[.string name] 9 (0, 0))]]) _ _ (upd _ 22 (.slice A17 z11.length c18))
      refine va rfl rfl rfl (q_assign (v := .slice A17 z11.length c18) rfl (by kernel_rfl)) ?_
      refine WR.nil ?_
      change WC _ _ _ _ _ _
      refine WC.rs ?_
      refine va rfl rfl rfl (q_move (v := .pointer (some ⟨gd, 0, none⟩)) rfl (by kernel_rfl)) ?_
      refine va rfl rfl rfl (q_move (v := .string name) rfl (by kernel_rfl)) ?_
      refine va rfl rfl rfl (q_move (v := .slice A17 z11.length c18) rfl (by kernel_rfl)) ?_
      have hc25 := hr20.capz
      intro w hw; obtain ⟨Γ21, hw, hl22, hr23⟩ := hw.seal (i := 0) rfl; have hs24 := hr20.sl hl22 hr23
      refine WR.here (C := CC F Γ21 [[], [(gd, .cells #[.int .i64 d.room, .map (some m1_6), .map (some m2_6), .slice A3_6 d.loose.length c3_6] ed (0, 0))], r1_6, r2_6, r3_6, [(g1, .cells #[.string name] 9 (0, 0))]]) ?_ hw
      clear hw
      obtain ⟨z26, hz27, h⟩ := bnd h
      refine e_call (is := []) rfl rfl (call_run Try.call29 rfl rfl (by kernel_rfl)) rfl (fun w hp => t_disk_add name hname hs24 hc25 hp hz27) ?_
      rintro Γ28 U30 v31 hl29 ⟨A32, c33, rfl, rfl, hr34, _⟩
      change WR _ _ _ (CC F Γ28 [[], [(gd, .cells #[.int .i64 d.room, .map (some m1_6), .map (some m2_6), .slice A3_6 d.loose.length c3_6] ed (0, 0))], r1_6, r2_6, r3_6, [(g1, .cells #[.string name] 9 (0, 0))]]) _ _ (upd _ 26 ((Cdisk_change_do.val z26 A32 c33)))
      refine va rfl rfl rfl (q_move (v := .string name) rfl (by kernel_rfl)) ?_
      refine va rfl rfl rfl (q_move (v := .slice A17 z11.length c18) rfl (by kernel_rfl)) ?_
      refine va rfl rfl rfl (q_build' (v := .agg #[(Cdisk_change_do.val z26 A32 c33), .string name, .slice A17 z11.length c18]) rfl (bargs3 rfl rfl rfl) (fun w => by kernel_rfl)) ?_
      intro w hw; have hw := hw.fold (is := [1, 1, 1, 1]) rfl hrow_6
      refine WR.here (C := CC F Γ28 [rowd, [], [(g1, .cells #[.string name] 9 (0, 0))]]) ?_ hw
      clear hw
      obtain ⟨z36, hz37, h⟩ := bnd h
      refine e_call (is := [0]) rfl rfl (call_run Try.call28 rfl rfl (by kernel_rfl)) rfl (fun w hp => t_disk_Disk_done (hd.mono ((hl14.trans hl22).trans hl29)) (⟨z26, name, z11⟩ : Ddisk_change) ⟨hr34, hname, ⟨hc25, (hs24.mono hl29)⟩⟩ hp hz37) ?_
      rintro Γ38 U40 v41 hl39 ⟨row42, rfl, rfl, hr43, hr44, _⟩
      change WR _ _ _ (CC F Γ38 [row42, [], [(g1, .cells #[.string name] 9 (0, 0))]]) _ _ (upd _ 30 (.int .i64 z36.2))
      refine va rfl rfl rfl (q_assign (v := .int .i64 z36.2) rfl (by kernel_rfl)) ?_
      refine WR.nil ?_
      change WC _ _ _ _ _ _
      refine WC.ret ?_
      intro w hw
      obtain rfl := Option.some.inj h
      subst hF
      exact end_e (is := [0]) (by kernel_rfl) hw rfl ⟨row42, rfl, rfl, hr43, hr44, trivial⟩
abbrev r_disk_Disk_Sync (gd ed : Nat) (r : Odisk_Disk) (U : List Rowb) (Γ : Gh) (v : Value) : Prop := ∃ (rowd' : Rowb), v = .tuple #[] ∧ U = [rowd'] ∧ Odisk_Disk.ob ed Γ gd rowd' r ∧ True
set_option maxRecDepth 100000 in
set_option maxHeartbeats 400000 in
theorem t_disk_Disk_Sync {Γ : Gh} {w0 : World} {gd ed : Nat} {rowd : Rowb} {d : Odisk_Disk} (hd : Odisk_Disk.ob ed Γ gd rowd d) (hp : Pre [rowd] Γ w0) {r : Odisk_Disk} (h : m_disk_Disk_Sync d = some r) : Calls Try.prog 25 #[.pointer (some ⟨gd, 0, none⟩)] w0 (Outc Γ [rowd] w0 (r_disk_Disk_Sync gd ed r)) := by
  refine calls_of (N := 13) (rs := []) (args := [.pointer (some ⟨gd, 0, none⟩)]) Try.func25 rfl Try.ntmps25 Try.results25 rfl ?_
  obtain ⟨F, hF⟩ : ∃ F : Fm, F = ⟨ids [rowd], w0, Γ⟩ := ⟨_, rfl⟩
  refine WC.here (C := CC F Γ [rowd]) ?_ (hF ▸ hp.start)
  refine WC.rs ?_
  refine va rfl rfl rfl (q_move (v := .pointer (some ⟨gd, 0, none⟩)) rfl (by kernel_rfl)) ?_
  refine va rfl rfl rfl (q_move (v := .pointer (some ⟨gd, 0, none⟩)) rfl (by kernel_rfl)) ?_
  refine va rfl rfl rfl (q_nil (A := some ⟨gd, 0, none⟩) rfl rfl rfl) ?_
  refine va rfl rfl rfl (q_fl 2 fld_61_2 rfl rfl rfl) ?_
  have hq := hd
  obtain ⟨m1_1, r1_1, m2_1, r2_1, A3_1, c3_1, r3_1, hrow_1, ho0_1, ho1_1, ho2_1, ho3_1, -⟩ := hq
  intro w hw; have hw := hw.unfold (i := 0) rfl hrow_1
  refine WR.here (C := CC F Γ [[(gd, .cells #[.int .i64 d.room, .map (some m1_1), .map (some m2_1), .slice A3_1 d.loose.length c3_1] ed (0, 0))], r1_1, r2_1, r3_1]) ?_ hw
  clear hw
  refine va rfl rfl rfl (q_ldl (i := 0) (v := .map (some m2_1)) rfl rfl Try.isAgg58 rfl rfl) ?_
  refine e_clone clone30 (i := 2) rfl ho2_1 rfl rfl (call_run Try.call30 rfl rfl (by kernel_rfl)) ?_
  intro g2 row3 hm4
  change WR _ _ _ (CC F Γ [row3, [(gd, .cells #[.int .i64 d.room, .map (some m1_1), .map (some m2_1), .slice A3_1 d.loose.length c3_1] ed (0, 0))], r1_1, r2_1, r3_1]) _ _ (upd _ 7 (.map (some g2)))
  refine va rfl rfl rfl (q_nil (A := some ⟨gd, 0, none⟩) rfl rfl rfl) ?_
  refine va rfl rfl rfl (q_fl 1 fld_61_1 rfl rfl rfl) ?_
  refine e_st (i := 1) (v := .map (some g2)) (new := #[.int .i64 d.room, .map (some g2), .map (some m2_1), .slice A3_1 d.loose.length c3_1]) rfl Try.sizeOf58 rfl rfl rfl rfl (by kernel_rfl) rfl rfl rfl rfl ?_
  refine WR.nil ?_
  change WC _ _ _ _ _ _
  refine WC.region ?_
  refine va rfl rfl rfl (q_move (v := .pointer (some ⟨gd, 0, none⟩)) rfl (by kernel_rfl)) ?_
  refine va rfl rfl rfl (q_nil (A := some ⟨gd, 0, none⟩) rfl rfl rfl) ?_
  refine va rfl rfl rfl (q_fl 3 fld_61_3 rfl rfl rfl) ?_
  refine e_st (i := 1) (v := .slice none 0 0) (new := #[.int .i64 d.room, .map (some g2), .map (some m2_1), .slice none 0 0]) rfl Try.sizeOf59 rfl rfl rfl rfl (by kernel_rfl) rfl rfl rfl rfl ?_
  refine WR.nil ?_
  intro w hw
  have hw := hw.pad
  obtain ⟨row_5, hrow_5, hob_5⟩ : ∃ rw : Rowb, rw = ([[(gd, .cells #[.int .i64 d.room, .map (some g2), .map (some m2_1), .slice none 0 0] ed (0, 0))], row3, r2_1, []] : List Rowb).flatten ∧ Odisk_Disk.ob ed Γ gd rw (⟨d.room, d.seen, d.seen, []⟩ : Odisk_Disk) := ⟨_, rfl, g2, row3, m2_1, r2_1, none, 0, [], rfl, ho0_1, hm4, ho2_1, (Own.nil ddisk_changeT Γ 68), trivial⟩
  have hw := hw.fold (is := [2, 1, 2, 0]) rfl hrow_5
  obtain rfl := Option.some.inj h
  subst hF
  exact end_e (is := [0]) (by kernel_rfl) hw rfl ⟨row_5, rfl, rfl, hob_5, trivial⟩
set_option maxRecDepth 100000 in
set_option maxHeartbeats 400000 in
theorem t_disk_Disk_Loose {Γ : Gh} {w0 : World} {gd ed : Nat} {rowd : Rowb} {d : Odisk_Disk} (hd : Odisk_Disk.ob ed Γ gd rowd d) (hdr : ∀ p ∈ rowd, Γ p.1 = some p.2) (hs : Sat Γ w0) {r : Int} (h : m_disk_Disk_Loose d = some r) : Calls Try.prog 17 #[.pointer (some ⟨gd, 0, none⟩)] w0 (fun e w' => e = .returned (.int .i64 r) ∧ Fr no w0 w') := by
  refine calls_of (N := 8) (rs := [2]) (args := [.pointer (some ⟨gd, 0, none⟩)]) Try.func17 rfl Try.ntmps17 Try.results17 rfl ?_
  obtain ⟨F, hF⟩ : ∃ F : Fm, F = ⟨no, w0, Γ⟩ := ⟨_, rfl⟩
  refine WC.here (C := CC F Γ []) ?_ (hF ▸ Cur.start0 hs)
  refine WC.rs ?_
  refine va rfl rfl rfl (q_assign (v := .int .i64 0) rfl (by kernel_rfl)) ?_
  refine WR.nil ?_
  change WC _ _ _ _ _ _
  refine WC.rs ?_
  refine va rfl rfl rfl (q_move (v := .pointer (some ⟨gd, 0, none⟩)) rfl (by kernel_rfl)) ?_
  refine va rfl rfl rfl (q_nil (A := some ⟨gd, 0, none⟩) rfl rfl rfl) ?_
  refine va rfl rfl rfl (q_fl 3 fld_61_3 rfl rfl rfl) ?_
  have hq := hd
  obtain ⟨m1_1, r1_1, m2_1, r2_1, A3_1, c3_1, r3_1, hrow_1, ho0_1, ho1_1, ho2_1, ho3_1, -⟩ := hq
  have hg_2 : ∀ u ∈ ([[(gd, .cells #[.int .i64 d.room, .map (some m1_1), .map (some m2_1), .slice A3_1 d.loose.length c3_1] ed (0, 0))], r1_1, r2_1, r3_1] : List Rowb), ∀ p ∈ u, Γ p.1 = some p.2 := fun u hu p hp => (fun p hp => (hdr p hp)) p (hrow_1 ▸ List.mem_flatten.2 ⟨u, hu, hp⟩)
  have hgc3 := hg_2 _ (List.mem_cons_self ..) (gd, _) (List.mem_singleton.2 rfl)
  have hgs4 := hg_2 r1_1 (by simp)
  have hgs5 := hg_2 r2_1 (by simp)
  have hgs6 := hg_2 r3_1 (by simp)
  have hs7 := ho3_1.sl (Gh.refl _) hgs6
  refine va rfl rfl rfl (q_ldg (v := .slice A3_1 d.loose.length c3_1) hgc3 rfl Try.isAgg59 rfl rfl) ?_
  refine va rfl rfl rfl (q_len_slice rfl Try.underlying59 rfl) ?_
  refine va rfl rfl rfl (q_assign (v := .int .i64 ((d.loose.length : Nat) : Int)) rfl (by kernel_rfl)) ?_
  refine WR.nil ?_
  change WC _ _ _ _ _ _
  refine WC.ret ?_
  intro w hw
  obtain rfl := Option.some.inj h
  subst hF
  exact ⟨by kernel_rfl, hw.fr⟩
abbrev r_disk_Disk_Crash (gd ed : Nat) (r : Odisk_Disk) (U : List Rowb) (Γ : Gh) (v : Value) : Prop := ∃ (rowd' : Rowb), v = .tuple #[] ∧ U = [rowd'] ∧ Odisk_Disk.ob ed Γ gd rowd' r ∧ True
set_option maxRecDepth 100000 in
set_option maxHeartbeats 400000 in
theorem t_disk_Disk_Crash {Γ : Gh} {w0 : World} {gd ed : Nat} {rowd : Rowb} {d : Odisk_Disk} (hd : Odisk_Disk.ob ed Γ gd rowd d) (keep : Int) (hkeep : I64 keep) (torn : Int) (htorn : I64 torn) (hp : Pre [rowd] Γ w0) {r : Odisk_Disk} (h : m_disk_Disk_Crash d keep torn = some r) : Calls Try.prog 13 #[.pointer (some ⟨gd, 0, none⟩), .int .i64 keep, .int .i64 torn] w0 (Outc Γ [rowd] w0 (r_disk_Disk_Crash gd ed r)) := by
  refine calls_of (N := 82) (rs := []) (args := [.pointer (some ⟨gd, 0, none⟩), .int .i64 keep, .int .i64 torn]) Try.func13 rfl Try.ntmps13 Try.results13 rfl ?_
  obtain ⟨F, hF⟩ : ∃ F : Fm, F = ⟨ids [rowd], w0, Γ⟩ := ⟨_, rfl⟩
  refine WC.here (C := CC F Γ [rowd]) ?_ (hF ▸ hp.start)
  refine WC.rs ?_
  refine va rfl rfl rfl (q_move (v := .int .i64 keep) rfl (by kernel_rfl)) ?_
  refine va rfl rfl rfl (q_max rfl rfl rfl) ?_
  refine va rfl rfl rfl (q_move (v := .pointer (some ⟨gd, 0, none⟩)) rfl (by kernel_rfl)) ?_
  refine va rfl rfl rfl (q_nil (A := some ⟨gd, 0, none⟩) rfl rfl rfl) ?_
  refine va rfl rfl rfl (q_fl 3 fld_61_3 rfl rfl rfl) ?_
  have hq := hd
  obtain ⟨m1_1, r1_1, m2_1, r2_1, A3_1, c3_1, r3_1, hrow_1, ho0_1, ho1_1, ho2_1, ho3_1, -⟩ := hq
  intro w hw; have hw := hw.unfold (i := 0) rfl hrow_1
  refine WR.here (C := CC F Γ [[(gd, .cells #[.int .i64 d.room, .map (some m1_1), .map (some m2_1), .slice A3_1 d.loose.length c3_1] ed (0, 0))], r1_1, r2_1, r3_1]) ?_ hw
  clear hw
  refine va rfl rfl rfl (q_ldl (i := 0) (v := .slice A3_1 d.loose.length c3_1) rfl rfl Try.isAgg59 rfl rfl) ?_
  refine va rfl rfl rfl (q_len_slice rfl Try.underlying59 rfl) ?_
  refine va rfl rfl rfl (q_min rfl rfl rfl) ?_
  refine va rfl rfl rfl (q_assign (v := .int .i64 (min (max keep 0) ((d.loose.length : Nat) : Int))) rfl (by kernel_rfl)) ?_
  refine WR.nil ?_
  change WC _ _ _ _ _ _
  refine WC.seq ?_
  refine WC.rs ?_
  refine va rfl rfl rfl (q_move (v := .pointer (some ⟨gd, 0, none⟩)) rfl (by kernel_rfl)) ?_
  refine va rfl rfl rfl (q_nil (A := some ⟨gd, 0, none⟩) rfl rfl rfl) ?_
  refine va rfl rfl rfl (q_fl 3 fld_61_3 rfl rfl rfl) ?_
  refine va rfl rfl rfl (q_ldl (i := 0) (v := .slice A3_1 d.loose.length c3_1) rfl rfl Try.isAgg59 rfl rfl) ?_
  refine va rfl rfl rfl (q_move (v := .int .i64 (min (max keep 0) ((d.loose.length : Nat) : Int))) rfl (by kernel_rfl)) ?_
  have hc6 := ho3_1.capz
  intro w hw; obtain ⟨Γ2, hw, hl3, hr4⟩ := hw.seal (i := 3) rfl; have hs5 := ho3_1.sl hl3 hr4
  refine WR.here (C := CC F Γ2 [[(gd, .cells #[.int .i64 d.room, .map (some m1_1), .map (some m2_1), .slice A3_1 d.loose.length c3_1] ed (0, 0))], r1_1, r2_1, []]) ?_ hw
  clear hw
  obtain ⟨hk7, h⟩ := chk_some h
  refine va rfl rfl rfl (q_cut_to (c := c3_1) (hi := (min (max keep 0) ((d.loose.length : Nat) : Int)).toNat) (xs := d.loose) Try.underlying59 Try.sizeOf68 rfl rfl (inle_eq rfl hk7) (inle_le hk7) hc6) ?_
  refine va rfl rfl rfl (q_len_slice rfl Try.underlying59 rfl) ?_
  refine va rfl rfl rfl (q_move (v := .int .i64 0) rfl (by kernel_rfl)) ?_
  refine WR.nil ?_
  change WC _ _ _ _ _ _
  refine WC.block ?_
  refine WC.forI h (fun (i14 : Nat) (m10 : List (ByteArray × (List UInt8))) σ w => ∃ (Γ8 : Gh), ∃ (row11 : Rowb), slots σ [(0, .pointer (some ⟨gd, 0, none⟩)), (1, .int .i64 (min (max keep 0) ((d.loose.length : Nat) : Int))), (2, .int .i64 torn), (23, .slice A3_1 (List.take ((min (max keep 0) ((d.loose.length : Nat) : Int)).toNat) d.loose).length c3_1), (24, .int .i64 (((List.take ((min (max keep 0) ((d.loose.length : Nat) : Int)).toNat) d.loose).length : Nat) : Int)), (25, .int .i64 ((i14 : Nat) : Int))] ∧ CC F Γ8 [[(gd, .cells #[.int .i64 d.room, .map (some m1_1), .map (some m2_1), .slice A3_1 d.loose.length c3_1] ed (0, 0))], row11, r2_1] w ∧ Gh.le Γ2 Γ8 ∧ MapO (strK Try.underlying9) (slT byteT).v Γ8 row11 m1_1 m10 ∧ True) ?_ ?_
  · skip
    intro w hw
    exact ⟨Γ2, r1_1, (sl_ (by kernel_rfl)), (hw.only (is := [0, 0, 0]) rfl), (Gh.refl _), (ho1_1.mono hl3), trivial⟩
  rintro f13 i14 m10 σ w hi15 hlt16 hge17 ⟨Γ8, row11, hsl, hw, hl9, ho12, -⟩
  refine Wpt.slots hsl ?_
  refine WC.here (C := CC F Γ8 [[(gd, .cells #[.int .i64 d.room, .map (some m1_1), .map (some m2_1), .slice A3_1 d.loose.length c3_1] ed (0, 0))], row11, r2_1]) ?_ hw
  clear hw hsl
  refine WC.rs ?_
  refine va rfl rfl rfl (q_lss rfl rfl rfl) ?_
  refine WR.nil ?_
  change WC _ _ _ _ _ _
  refine WC.seq ?_
  refine WC.cond (b := (decide (((i14 : Nat) : Int) < (((List.take ((min (max keep 0) ((d.loose.length : Nat) : Int)).toNat) d.loose).length : Nat) : Int)))) (by kernel_rfl) (fun hb18 => ?_) (fun hb18 => ?_)
  · skip
    have hl19 := ilt hb18
    have h := hlt16 hl19
    refine WC.skip ?_
    change WC _ _ _ _ _ _
    refine WC.seq ?_
    refine WC.block ?_
    refine WC.rs ?_
    refine va rfl rfl rfl (q_ixn (i := i14) Try.underlying59 Try.sizeOf68 rfl rfl rfl hl19 (((hs5.mono hl9).cut_to (hi := (min (max keep 0) ((d.loose.length : Nat) : Int)).toNat) (inle_le hk7)).some_ hl19)) ?_
    obtain ⟨A20, c21, A22, c23, hx24⟩ := ((hs5.mono hl9).cut_to (hi := (min (max keep 0) ((d.loose.length : Nat) : Int)).toNat) (inle_le hk7)).ddisk_changeT_at i14
    refine va rfl rfl rfl (q_lda (c := 0) (vs := [(Cdisk_change_do.val ((gt (List.take ((min (max keep 0) ((d.loose.length : Nat) : Int)).toNat) d.loose) i14).do_) A20 c21), .string (gt (List.take ((min (max keep 0) ((d.loose.length : Nat) : Int)).toNat) d.loose) i14).name, .slice A22 ((gt (List.take ((min (max keep 0) ((d.loose.length : Nat) : Int)).toNat) d.loose) i14).tail).length c23]) (hx24 hl19).2 rfl Try.isAgg68 Try.sizeOf68 rfl rfl rfl) ?_
    refine e_alloc Try.zeroValue68 rfl rfl rfl rfl ?_
    intro g25
    refine e_st (i := 0) (v := .agg #[(Cdisk_change_do.val ((gt (List.take ((min (max keep 0) ((d.loose.length : Nat) : Int)).toNat) d.loose) i14).do_) A20 c21), .string (gt (List.take ((min (max keep 0) ((d.loose.length : Nat) : Int)).toNat) d.loose) i14).name, .slice A22 ((gt (List.take ((min (max keep 0) ((d.loose.length : Nat) : Int)).toNat) d.loose) i14).tail).length c23]) (new := #[(Cdisk_change_do.val ((gt (List.take ((min (max keep 0) ((d.loose.length : Nat) : Int)).toNat) d.loose) i14).do_) A20 c21), .string (gt (List.take ((min (max keep 0) ((d.loose.length : Nat) : Int)).toNat) d.loose) i14).name, .slice A22 ((gt (List.take ((min (max keep 0) ((d.loose.length : Nat) : Int)).toNat) d.loose) i14).tail).length c23]) rfl Try.sizeOf68 rfl rfl rfl rfl (by kernel_rfl) rfl rfl rfl rfl ?_
    refine WR.nil ?_
    change WC _ _ _ _ _ _
    intro w hw; have h026 := hw.le
    refine WC.here (C := CC F Γ8 [[(g25, .cells #[(Cdisk_change_do.val ((gt (List.take ((min (max keep 0) ((d.loose.length : Nat) : Int)).toNat) d.loose) i14).do_) A20 c21), .string (gt (List.take ((min (max keep 0) ((d.loose.length : Nat) : Int)).toNat) d.loose) i14).name, .slice A22 ((gt (List.take ((min (max keep 0) ((d.loose.length : Nat) : Int)).toNat) d.loose) i14).tail).length c23] 68 (0, 0))], [(gd, .cells #[.int .i64 d.room, .map (some m1_1), .map (some m2_1), .slice A3_1 d.loose.length c3_1] ed (0, 0))], row11, r2_1]) ?_ hw; clear hw
    refine WC.held (CC F Γ8 [[(g25, .cells #[(Cdisk_change_do.val ((gt (List.take ((min (max keep 0) ((d.loose.length : Nat) : Int)).toNat) d.loose) i14).do_) A20 c21), .string (gt (List.take ((min (max keep 0) ((d.loose.length : Nat) : Int)).toNat) d.loose) i14).name, .slice A22 ((gt (List.take ((min (max keep 0) ((d.loose.length : Nat) : Int)).toNat) d.loose) i14).tail).length c23] 68 (0, 0))], [(gd, .cells #[.int .i64 d.room, .map (some m1_1), .map (some m2_1), .slice A3_1 d.loose.length c3_1] ed (0, 0))]]) (by kernel_rfl) (fun w hw => hw.drawn _) ?_
    change WH _ _ _ _ (CC F Γ8 [[(g25, .cells #[(Cdisk_change_do.val ((gt (List.take ((min (max keep 0) ((d.loose.length : Nat) : Int)).toNat) d.loose) i14).do_) A20 c21), .string (gt (List.take ((min (max keep 0) ((d.loose.length : Nat) : Int)).toNat) d.loose) i14).name, .slice A22 ((gt (List.take ((min (max keep 0) ((d.loose.length : Nat) : Int)).toNat) d.loose) i14).tail).length c23] 68 (0, 0))], [(gd, .cells #[.int .i64 d.room, .map (some m1_1), .map (some m2_1), .slice A3_1 d.loose.length c3_1] ed (0, 0))], row11, r2_1]) _ 7 #[false, false, false, false, false, false, false] _
    refine ht (i := 0) rfl (by kernel_rfl) rfl rfl rfl (fun w hw => hw.back (Gh.refl _) h026 (.cons_cons _ (.cons_cons _ (.cons _ (.cons _ .slnil))))) (q_fl 0 fld_68_0 rfl rfl rfl) ?_
    refine ht (i := 1) rfl (by kernel_rfl) rfl rfl rfl (fun w hw => hw.back (Gh.refl _) h026 (.cons_cons _ (.cons_cons _ (.cons _ (.cons _ .slnil))))) (q_ldl (i := 0) (v := (Cdisk_change_do.val ((gt (List.take ((min (max keep 0) ((d.loose.length : Nat) : Int)).toNat) d.loose) i14).do_) A20 c21)) rfl rfl Try.isAgg65 rfl rfl) ?_
    refine ht (i := 2) rfl (by kernel_rfl) rfl rfl rfl (fun w hw => hw.back (Gh.refl _) h026 (.cons_cons _ (.cons_cons _ (.cons _ (.cons _ .slnil))))) (q_move (v := .pointer (some ⟨gd, 0, none⟩)) rfl (by kernel_rfl)) ?_
    refine ht (i := 3) rfl (by kernel_rfl) rfl rfl rfl (fun w hw => hw.back (Gh.refl _) h026 (.cons_cons _ (.cons_cons _ (.cons _ (.cons _ .slnil))))) (q_nil (A := some ⟨gd, 0, none⟩) rfl rfl rfl) ?_
    refine ht (i := 4) rfl (by kernel_rfl) rfl rfl rfl (fun w hw => hw.back (Gh.refl _) h026 (.cons_cons _ (.cons_cons _ (.cons _ (.cons _ .slnil))))) (q_fl 1 fld_61_1 rfl rfl rfl) ?_
    refine ht (i := 5) rfl (by kernel_rfl) rfl rfl rfl (fun w hw => hw.back (Gh.refl _) h026 (.cons_cons _ (.cons_cons _ (.cons _ (.cons _ .slnil))))) (q_ldl (i := 1) (v := .map (some m1_1)) rfl rfl Try.isAgg58 rfl rfl) ?_
    refine WH.lone (i := 6) (by kernel_rfl) rfl ?_
    obtain ⟨z27, hz28, h⟩ := bnd h
    obtain ⟨fd29, cp30, hv31, he32, hcl33⟩ := t_call_Cdisk_change_do (x := (gt (List.take ((min (max keep 0) ((d.loose.length : Nat) : Int)).toNat) d.loose) i14).do_) (hx24 hl19).1.1 ho12 hz28
    refine e_call (is := [2]) rfl rfl (call_run_fv (caps := cp30) (args := #[.map (some m1_1)] ++ cp30) he32 rfl (Eq.trans (b := (Cdisk_change_do.val ((gt (List.take ((min (max keep 0) ((d.loose.length : Nat) : Int)).toNat) d.loose) i14).do_) A20 c21)) (by kernel_rfl) hv31) (by kernel_rfl)) rfl (fun w hp => (by exact hcl33 w hp)) ?_
    rintro Γ34 U36 v37 hl35 ⟨row38, rfl, rfl, hr39, _⟩
    change WR _ _ _ (CC F Γ34 [row38, [(g25, .cells #[(Cdisk_change_do.val ((gt (List.take ((min (max keep 0) ((d.loose.length : Nat) : Int)).toNat) d.loose) i14).do_) A20 c21), .string (gt (List.take ((min (max keep 0) ((d.loose.length : Nat) : Int)).toNat) d.loose) i14).name, .slice A22 ((gt (List.take ((min (max keep 0) ((d.loose.length : Nat) : Int)).toNat) d.loose) i14).tail).length c23] 68 (0, 0))], [(gd, .cells #[.int .i64 d.room, .map (some m1_1), .map (some m2_1), .slice A3_1 d.loose.length c3_1] ed (0, 0))], r2_1]) _ _ (upd _ 35 (.tuple #[]))
    refine WR.nil ?_
    refine WH.next (fun w hw => hw.back hl35 h026 (.cons _ (.cons_cons _ (.cons_cons _ (.cons _ .slnil))))) ?_
    refine WH.done (by kernel_rfl) ?_
    change WC _ _ _ _ _ _
    refine WC.region ?_
    refine va rfl rfl rfl (q_add_r (r := ((i14 + 1 : Nat) : Int)) rfl rfl rfl (ctr_len hl19 ((hs5.mono hl9).cut_to (hi := (min (max keep 0) ((d.loose.length : Nat) : Int)).toNat) (inle_le hk7)).le)) ?_
    refine va rfl rfl rfl (q_move (v := .int .i64 ((i14 + 1 : Nat) : Int)) rfl (by kernel_rfl)) ?_
    refine WR.nil ?_
    intro w hw
    exact ⟨hl19, z27, h, Γ34, row38, (sl_ (by kernel_rfl)), (hw.only (is := [2, 0, 1]) rfl), (hl9.trans hl35), hr39, trivial⟩
  · skip
    have h := hge17 (ige hb18)
    refine WC.exit ?_
    change WC _ _ _ _ _ _
    refine WC.cut (fun σ w => ∃ (m42 : List (ByteArray × (List UInt8))), ∃ (Γ40 : Gh), ∃ (row43 : Rowb), m_disk_Disk_Crash_j2 d m42 = some r ∧ slots σ [(0, .pointer (some ⟨gd, 0, none⟩))] ∧ CC F Γ40 [[(gd, .cells #[.int .i64 d.room, .map (some m1_1), .map (some m2_1), .slice A3_1 d.loose.length c3_1] ed (0, 0))], row43, r2_1] w ∧ Gh.le Γ8 Γ40 ∧ MapO (strK Try.underlying9) (slT byteT).v Γ40 row43 m1_1 m42 ∧ True) ?_ ?_
    · skip
      refine WC.rs ?_
      refine va rfl rfl rfl (q_move (v := .int .i64 (min (max keep 0) ((d.loose.length : Nat) : Int))) rfl (by kernel_rfl)) ?_
      refine va rfl rfl rfl (q_move (v := .pointer (some ⟨gd, 0, none⟩)) rfl (by kernel_rfl)) ?_
      refine va rfl rfl rfl (q_nil (A := some ⟨gd, 0, none⟩) rfl rfl rfl) ?_
      refine va rfl rfl rfl (q_fl 3 fld_61_3 rfl rfl rfl) ?_
      refine va rfl rfl rfl (q_ldl (i := 0) (v := .slice A3_1 d.loose.length c3_1) rfl rfl Try.isAgg59 rfl rfl) ?_
      refine va rfl rfl rfl (q_len_slice rfl Try.underlying59 rfl) ?_
      refine va rfl rfl rfl (q_lss rfl rfl rfl) ?_
      refine WR.nil ?_
      change WC _ _ _ _ _ _
      refine WC.cif h (by kernel_rfl) (fun hb45 h => ?_) (fun hb45 h => ?_)
      · skip
        refine WC.rs ?_
        refine va rfl rfl rfl (q_move (v := .pointer (some ⟨gd, 0, none⟩)) rfl (by kernel_rfl)) ?_
        refine va rfl rfl rfl (q_nil (A := some ⟨gd, 0, none⟩) rfl rfl rfl) ?_
        refine va rfl rfl rfl (q_fl 3 fld_61_3 rfl rfl rfl) ?_
        refine va rfl rfl rfl (q_ldl (i := 0) (v := .slice A3_1 d.loose.length c3_1) rfl rfl Try.isAgg59 rfl rfl) ?_
        refine va rfl rfl rfl (q_move (v := .int .i64 (min (max keep 0) ((d.loose.length : Nat) : Int))) rfl (by kernel_rfl)) ?_
        obtain ⟨hk46, h⟩ := chk_some h
        refine va rfl rfl rfl (q_ix Try.underlying59 Try.sizeOf68 rfl rfl rfl hk46 ((hs5.mono hl9).some_ (inb_lt hk46))) ?_
        obtain ⟨A47, c48, A49, c50, hx51⟩ := (hs5.mono hl9).ddisk_changeT_at ((min (max keep 0) ((d.loose.length : Nat) : Int)).toNat)
        refine va rfl rfl rfl (q_lda (c := 0) (vs := [(Cdisk_change_do.val ((gt d.loose ((min (max keep 0) ((d.loose.length : Nat) : Int)).toNat)).do_) A47 c48), .string (gt d.loose ((min (max keep 0) ((d.loose.length : Nat) : Int)).toNat)).name, .slice A49 ((gt d.loose ((min (max keep 0) ((d.loose.length : Nat) : Int)).toNat)).tail).length c50]) (hx51 (inb_lt hk46)).2 rfl Try.isAgg68 Try.sizeOf68 rfl rfl rfl) ?_
        refine e_alloc Try.zeroValue68 rfl rfl rfl rfl ?_
        intro g52
        refine e_st (i := 0) (v := .agg #[(Cdisk_change_do.val ((gt d.loose ((min (max keep 0) ((d.loose.length : Nat) : Int)).toNat)).do_) A47 c48), .string (gt d.loose ((min (max keep 0) ((d.loose.length : Nat) : Int)).toNat)).name, .slice A49 ((gt d.loose ((min (max keep 0) ((d.loose.length : Nat) : Int)).toNat)).tail).length c50]) (new := #[(Cdisk_change_do.val ((gt d.loose ((min (max keep 0) ((d.loose.length : Nat) : Int)).toNat)).do_) A47 c48), .string (gt d.loose ((min (max keep 0) ((d.loose.length : Nat) : Int)).toNat)).name, .slice A49 ((gt d.loose ((min (max keep 0) ((d.loose.length : Nat) : Int)).toNat)).tail).length c50]) rfl Try.sizeOf68 rfl rfl rfl rfl (by kernel_rfl) rfl rfl rfl rfl ?_
        refine WR.nil ?_
        change WC _ _ _ _ _ _
        refine WC.rs ?_
        refine va rfl rfl rfl (q_move (v := .int .i64 torn) rfl (by kernel_rfl)) ?_
        refine va rfl rfl rfl (q_max rfl rfl rfl) ?_
        refine va rfl rfl rfl (q_fl 2 fld_68_2 rfl rfl rfl) ?_
        refine va rfl rfl rfl (q_ldl (i := 0) (v := .slice A49 ((gt d.loose ((min (max keep 0) ((d.loose.length : Nat) : Int)).toNat)).tail).length c50) rfl rfl Try.isAgg22 rfl rfl) ?_
        refine va rfl rfl rfl (q_len_slice rfl Try.underlying22 rfl) ?_
        refine va rfl rfl rfl (q_min rfl rfl rfl) ?_
        refine va rfl rfl rfl (q_assign (v := .int .i64 (min (max torn 0) ((((gt d.loose ((min (max keep 0) ((d.loose.length : Nat) : Int)).toNat)).tail).length : Nat) : Int))) rfl (by kernel_rfl)) ?_
        refine WR.nil ?_
        change WC _ _ _ _ _ _
        refine WC.rs ?_
        refine va rfl rfl rfl (q_move (v := .int .i64 (min (max torn 0) ((((gt d.loose ((min (max keep 0) ((d.loose.length : Nat) : Int)).toNat)).tail).length : Nat) : Int))) rfl (by kernel_rfl)) ?_
        refine va rfl rfl rfl (q_gtr rfl rfl rfl) ?_
        refine WR.nil ?_
        change WC _ _ _ _ _ _
        refine WC.cif h (by kernel_rfl) (fun hb53 h => ?_) (fun hb53 h => ?_)
        · skip
          intro w hw; have h054 := hw.le
          refine WC.here (C := CC F Γ8 [[(g52, .cells #[(Cdisk_change_do.val ((gt d.loose ((min (max keep 0) ((d.loose.length : Nat) : Int)).toNat)).do_) A47 c48), .string (gt d.loose ((min (max keep 0) ((d.loose.length : Nat) : Int)).toNat)).name, .slice A49 ((gt d.loose ((min (max keep 0) ((d.loose.length : Nat) : Int)).toNat)).tail).length c50] 68 (0, 0))], [(gd, .cells #[.int .i64 d.room, .map (some m1_1), .map (some m2_1), .slice A3_1 d.loose.length c3_1] ed (0, 0))], row11, r2_1]) ?_ hw; clear hw
          refine WC.held (CC F Γ8 [[(g52, .cells #[(Cdisk_change_do.val ((gt d.loose ((min (max keep 0) ((d.loose.length : Nat) : Int)).toNat)).do_) A47 c48), .string (gt d.loose ((min (max keep 0) ((d.loose.length : Nat) : Int)).toNat)).name, .slice A49 ((gt d.loose ((min (max keep 0) ((d.loose.length : Nat) : Int)).toNat)).tail).length c50] 68 (0, 0))], [(gd, .cells #[.int .i64 d.room, .map (some m1_1), .map (some m2_1), .slice A3_1 d.loose.length c3_1] ed (0, 0))]]) (by kernel_rfl) (fun w hw => hw.drawn _) ?_
          change WH _ _ _ _ (CC F Γ8 [[(g52, .cells #[(Cdisk_change_do.val ((gt d.loose ((min (max keep 0) ((d.loose.length : Nat) : Int)).toNat)).do_) A47 c48), .string (gt d.loose ((min (max keep 0) ((d.loose.length : Nat) : Int)).toNat)).name, .slice A49 ((gt d.loose ((min (max keep 0) ((d.loose.length : Nat) : Int)).toNat)).tail).length c50] 68 (0, 0))], [(gd, .cells #[.int .i64 d.room, .map (some m1_1), .map (some m2_1), .slice A3_1 d.loose.length c3_1] ed (0, 0))], row11, r2_1]) _ 12 #[false, false, false, false, false, false, false, false, false, false, false, false] _
          refine ht (i := 0) rfl (by kernel_rfl) rfl rfl rfl (fun w hw => hw.back (Gh.refl _) h054 (.cons_cons _ (.cons_cons _ (.cons _ (.cons _ .slnil))))) (q_fl 1 fld_68_1 rfl rfl rfl) ?_
          refine ht (i := 1) rfl (by kernel_rfl) rfl rfl rfl (fun w hw => hw.back (Gh.refl _) h054 (.cons_cons _ (.cons_cons _ (.cons _ (.cons _ .slnil))))) (q_ldl (i := 0) (v := .string (gt d.loose ((min (max keep 0) ((d.loose.length : Nat) : Int)).toNat)).name) rfl rfl Try.isAgg9 rfl rfl) ?_
          refine ht (i := 2) rfl (by kernel_rfl) rfl rfl rfl (fun w hw => hw.back (Gh.refl _) h054 (.cons_cons _ (.cons_cons _ (.cons _ (.cons _ .slnil))))) (q_fl 2 fld_68_2 rfl rfl rfl) ?_
          refine ht (i := 3) rfl (by kernel_rfl) rfl rfl rfl (fun w hw => hw.back (Gh.refl _) h054 (.cons_cons _ (.cons_cons _ (.cons _ (.cons _ .slnil))))) (q_ldl (i := 0) (v := .slice A49 ((gt d.loose ((min (max keep 0) ((d.loose.length : Nat) : Int)).toNat)).tail).length c50) rfl rfl Try.isAgg22 rfl rfl) ?_
          refine ht (i := 4) rfl (by kernel_rfl) rfl rfl rfl (fun w hw => hw.back (Gh.refl _) h054 (.cons_cons _ (.cons_cons _ (.cons _ (.cons _ .slnil))))) (q_move (v := .int .i64 (min (max torn 0) ((((gt d.loose ((min (max keep 0) ((d.loose.length : Nat) : Int)).toNat)).tail).length : Nat) : Int))) rfl (by kernel_rfl)) ?_
          obtain ⟨hk55, h⟩ := chk_some h
          refine ht (i := 5) rfl (by kernel_rfl) rfl rfl rfl (fun w hw => hw.back (Gh.refl _) h054 (.cons_cons _ (.cons_cons _ (.cons _ (.cons _ .slnil))))) (q_cut_to (c := c50) (hi := (min (max torn 0) ((((gt d.loose ((min (max keep 0) ((d.loose.length : Nat) : Int)).toNat)).tail).length : Nat) : Int)).toNat) (xs := ((gt d.loose ((min (max keep 0) ((d.loose.length : Nat) : Int)).toNat)).tail)) Try.underlying22 Try.sizeOf5 rfl rfl (inle_eq rfl hk55) (inle_le hk55) (hx51 (inb_lt hk46)).1.2.2.1) ?_
          refine ht (i := 7) rfl (by kernel_rfl) rfl rfl rfl (fun w hw => hw.back (Gh.refl _) h054 (.cons_cons _ (.cons_cons _ (.cons _ (.cons _ .slnil))))) (q_move (v := .pointer (some ⟨gd, 0, none⟩)) rfl (by kernel_rfl)) ?_
          refine ht (i := 8) rfl (by kernel_rfl) rfl rfl rfl (fun w hw => hw.back (Gh.refl _) h054 (.cons_cons _ (.cons_cons _ (.cons _ (.cons _ .slnil))))) (q_nil (A := some ⟨gd, 0, none⟩) rfl rfl rfl) ?_
          refine ht (i := 9) rfl (by kernel_rfl) rfl rfl rfl (fun w hw => hw.back (Gh.refl _) h054 (.cons_cons _ (.cons_cons _ (.cons _ (.cons _ .slnil))))) (q_fl 1 fld_61_1 rfl rfl rfl) ?_
          refine ht (i := 10) rfl (by kernel_rfl) rfl rfl rfl (fun w hw => hw.back (Gh.refl _) h054 (.cons_cons _ (.cons_cons _ (.cons _ (.cons _ .slnil))))) (q_ldl (i := 1) (v := .map (some m1_1)) rfl rfl Try.isAgg58 rfl rfl) ?_
          refine WH.lone (i := 6) (by kernel_rfl) rfl ?_
          obtain ⟨z56, hz57, h⟩ := bnd h
          refine e_call (is := []) rfl rfl (call_run Try.call29 rfl rfl (by kernel_rfl)) rfl (fun w hp => t_disk_add ((gt d.loose ((min (max keep 0) ((d.loose.length : Nat) : Int)).toNat)).name) (hx51 (inb_lt hk46)).1.2.1 ((hx51 (inb_lt hk46)).1.2.2.2.cut_to (hi := (min (max torn 0) ((((gt d.loose ((min (max keep 0) ((d.loose.length : Nat) : Int)).toNat)).tail).length : Nat) : Int)).toNat) (inle_le hk55)) (take_cap (hx51 (inb_lt hk46)).1.2.2.1 ((min (max torn 0) ((((gt d.loose ((min (max keep 0) ((d.loose.length : Nat) : Int)).toNat)).tail).length : Nat) : Int)).toNat)) hp hz57) ?_
          rintro Γ58 U60 v61 hl59 ⟨A62, c63, rfl, rfl, hr64, _⟩
          change WR _ _ _ (CC F Γ58 [[(g52, .cells #[(Cdisk_change_do.val ((gt d.loose ((min (max keep 0) ((d.loose.length : Nat) : Int)).toNat)).do_) A47 c48), .string (gt d.loose ((min (max keep 0) ((d.loose.length : Nat) : Int)).toNat)).name, .slice A49 ((gt d.loose ((min (max keep 0) ((d.loose.length : Nat) : Int)).toNat)).tail).length c50] 68 (0, 0))], [(gd, .cells #[.int .i64 d.room, .map (some m1_1), .map (some m2_1), .slice A3_1 d.loose.length c3_1] ed (0, 0))], row11, r2_1]) _ _ (upd _ 65 ((Cdisk_change_do.val z56 A62 c63)))
          refine WR.nil ?_
          refine WH.next (fun w hw => hw.back hl59 h054 (.cons_cons _ (.cons_cons _ (.cons _ (.cons _ .slnil))))) ?_
          refine WH.lone (i := 11) (by kernel_rfl) rfl ?_
          obtain ⟨z65, hz66, h⟩ := bnd h
          obtain ⟨fd67, cp68, hv69, he70, hcl71⟩ := t_call_Cdisk_change_do (x := z56) hr64 (ho12.mono hl59) hz66
          refine e_call (is := [2]) rfl rfl (call_run_fv (caps := cp68) (args := #[.map (some m1_1)] ++ cp68) he70 rfl (Eq.trans (b := (Cdisk_change_do.val z56 A62 c63)) (by kernel_rfl) hv69) (by kernel_rfl)) rfl (fun w hp => (by exact hcl71 w hp)) ?_
          rintro Γ72 U74 v75 hl73 ⟨row76, rfl, rfl, hr77, _⟩
          change WR _ _ _ (CC F Γ72 [row76, [(g52, .cells #[(Cdisk_change_do.val ((gt d.loose ((min (max keep 0) ((d.loose.length : Nat) : Int)).toNat)).do_) A47 c48), .string (gt d.loose ((min (max keep 0) ((d.loose.length : Nat) : Int)).toNat)).name, .slice A49 ((gt d.loose ((min (max keep 0) ((d.loose.length : Nat) : Int)).toNat)).tail).length c50] 68 (0, 0))], [(gd, .cells #[.int .i64 d.room, .map (some m1_1), .map (some m2_1), .slice A3_1 d.loose.length c3_1] ed (0, 0))], r2_1]) _ _ (upd _ 70 (.tuple #[]))
          refine WR.nil ?_
          refine WH.next (fun w hw => hw.back (hl59.trans hl73) h054 (.cons _ (.cons_cons _ (.cons_cons _ (.cons _ .slnil))))) ?_
          refine WH.done (by kernel_rfl) ?_
          intro w hw
          exact ⟨z65, Γ72, row76, h, (sl_ (by kernel_rfl)), (hw.only (is := [2, 0, 1]) rfl), (hl59.trans hl73), hr77, trivial⟩
        · skip
          refine WC.skip ?_
          intro w hw
          exact ⟨m10, Γ8, row11, h, (sl_ (by kernel_rfl)), (hw.only (is := [1, 1, 1]) rfl), (Gh.refl _), ho12, trivial⟩
      · skip
        refine WC.skip ?_
        intro w hw
        exact ⟨m10, Γ8, row11, h, (sl_ (by kernel_rfl)), hw, (Gh.refl _), ho12, trivial⟩
    · skip
      rintro σ w ⟨m42, Γ40, row43, h, hsl, hw, hl41, ho44, -⟩
      refine Wpt.slots hsl ?_
      refine WC.here (C := CC F Γ40 [[(gd, .cells #[.int .i64 d.room, .map (some m1_1), .map (some m2_1), .slice A3_1 d.loose.length c3_1] ed (0, 0))], row43, r2_1]) ?_ hw
      clear hw hsl
      refine WC.rs ?_
      refine va rfl rfl rfl (q_move (v := .pointer (some ⟨gd, 0, none⟩)) rfl (by kernel_rfl)) ?_
      refine va rfl rfl rfl (q_move (v := .pointer (some ⟨gd, 0, none⟩)) rfl (by kernel_rfl)) ?_
      refine va rfl rfl rfl (q_nil (A := some ⟨gd, 0, none⟩) rfl rfl rfl) ?_
      refine va rfl rfl rfl (q_fl 1 fld_61_1 rfl rfl rfl) ?_
      refine va rfl rfl rfl (q_ldl (i := 0) (v := .map (some m1_1)) rfl rfl Try.isAgg58 rfl rfl) ?_
      refine e_clone clone30 (i := 1) rfl ho44 rfl rfl (call_run Try.call30 rfl rfl (by kernel_rfl)) ?_
      intro g78 row79 hm80
      change WR _ _ _ (CC F Γ40 [row79, [(gd, .cells #[.int .i64 d.room, .map (some m1_1), .map (some m2_1), .slice A3_1 d.loose.length c3_1] ed (0, 0))], row43, r2_1]) _ _ (upd _ 76 (.map (some g78)))
      refine va rfl rfl rfl (q_nil (A := some ⟨gd, 0, none⟩) rfl rfl rfl) ?_
      refine va rfl rfl rfl (q_fl 2 fld_61_2 rfl rfl rfl) ?_
      refine e_st (i := 1) (v := .map (some g78)) (new := #[.int .i64 d.room, .map (some m1_1), .map (some g78), .slice A3_1 d.loose.length c3_1]) rfl Try.sizeOf58 rfl rfl rfl rfl (by kernel_rfl) rfl rfl rfl rfl ?_
      refine WR.nil ?_
      change WC _ _ _ _ _ _
      refine WC.region ?_
      refine va rfl rfl rfl (q_move (v := .pointer (some ⟨gd, 0, none⟩)) rfl (by kernel_rfl)) ?_
      refine va rfl rfl rfl (q_nil (A := some ⟨gd, 0, none⟩) rfl rfl rfl) ?_
      refine va rfl rfl rfl (q_fl 3 fld_61_3 rfl rfl rfl) ?_
      refine e_st (i := 1) (v := .slice none 0 0) (new := #[.int .i64 d.room, .map (some m1_1), .map (some g78), .slice none 0 0]) rfl Try.sizeOf59 rfl rfl rfl rfl (by kernel_rfl) rfl rfl rfl rfl ?_
      refine WR.nil ?_
      intro w hw
      have hw := hw.pad
      obtain ⟨row_81, hrow_81, hob_81⟩ : ∃ rw : Rowb, rw = ([[(gd, .cells #[.int .i64 d.room, .map (some m1_1), .map (some g78), .slice none 0 0] ed (0, 0))], row43, row79, []] : List Rowb).flatten ∧ Odisk_Disk.ob ed Γ40 gd rw (⟨d.room, m42, m42, []⟩ : Odisk_Disk) := ⟨_, rfl, m1_1, row43, g78, row79, none, 0, [], rfl, ho0_1, ho44, hm80, (Own.nil ddisk_changeT Γ40 68), trivial⟩
      have hw := hw.fold (is := [2, 2, 1, 0]) rfl hrow_81
      obtain rfl := Option.some.inj h
      subst hF
      exact end_e (is := [0]) (by kernel_rfl) hw rfl ⟨row_81, rfl, rfl, hob_81, trivial⟩
abbrev r_disk_Disk_Read (gd ed : Nat) (rowd : Rowb) (r : (List UInt8) × Bool) (U : List Rowb) (Γ : Gh) (v : Value) : Prop := ∃ (A0 : Option Addr), ∃ (c0 : Nat), ∃ (row0 : Rowb), v = .tuple #[.slice A0 r.1.length c0, .bool r.2] ∧ U = [rowd, row0] ∧ Own byteT Γ 5 row0 A0 c0 r.1 ∧ True
set_option maxRecDepth 100000 in
set_option maxHeartbeats 400000 in
theorem t_disk_Disk_Read {Γ : Gh} {w0 : World} {gd ed : Nat} {rowd : Rowb} {d : Odisk_Disk} (hd : Odisk_Disk.ob ed Γ gd rowd d) (name : ByteArray) (hname : name.size ≤ lim) (hp : Pre [rowd] Γ w0) {r : (List UInt8) × Bool} (h : m_disk_Disk_Read d name = some r) : Calls Try.prog 12 #[.pointer (some ⟨gd, 0, none⟩), .string name] w0 (Outc Γ [rowd] w0 (r_disk_Disk_Read gd ed rowd r)) := by
  refine calls_of (N := 20) (rs := [4, 5]) (args := [.pointer (some ⟨gd, 0, none⟩), .string name]) Try.func12 rfl Try.ntmps12 Try.results12 rfl ?_
  obtain ⟨F, hF⟩ : ∃ F : Fm, F = ⟨ids [rowd], w0, Γ⟩ := ⟨_, rfl⟩
  refine WC.here (C := CC F Γ [rowd]) ?_ (hF ▸ hp.start)
  refine WC.rs ?_
  refine va rfl rfl rfl (q_assign (v := .slice none 0 0) rfl (by kernel_rfl)) ?_
  refine va rfl rfl rfl (q_assign (v := .bool false) rfl (by kernel_rfl)) ?_
  refine WR.nil ?_
  change WC _ _ _ _ _ _
  refine WC.rs ?_
  refine va rfl rfl rfl (q_move (v := .pointer (some ⟨gd, 0, none⟩)) rfl (by kernel_rfl)) ?_
  refine va rfl rfl rfl (q_nil (A := some ⟨gd, 0, none⟩) rfl rfl rfl) ?_
  refine va rfl rfl rfl (q_fl 2 fld_61_2 rfl rfl rfl) ?_
  have hq := hd
  obtain ⟨m1_1, r1_1, m2_1, r2_1, A3_1, c3_1, r3_1, hrow_1, ho0_1, ho1_1, ho2_1, ho3_1, -⟩ := hq
  intro w hw; have hw := hw.unfold (i := 0) rfl hrow_1
  refine WR.here (C := CC F Γ [[(gd, .cells #[.int .i64 d.room, .map (some m1_1), .map (some m2_1), .slice A3_1 d.loose.length c3_1] ed (0, 0))], r1_1, r2_1, r3_1]) ?_ hw
  clear hw
  refine va rfl rfl rfl (q_ldl (i := 0) (v := .map (some m2_1)) rfl rfl Try.isAgg58 rfl rfl) ?_
  refine va rfl rfl rfl (q_move (v := .string name) rfl (by kernel_rfl)) ?_
  obtain ⟨v2, ⟨A5, c6, hv3, hc7, hs8⟩, hat4⟩ := MapO.look ho2_1 name (z := .slice none 0 0) (zx := []) ⟨none, 0, rfl, Nat.zero_le _, Sl.nil _ _ _⟩
  obtain rfl : v2 = _ := List.cons.inj hv3 |>.1
  refine va rfl rfl rfl (q_lookup2 (v := .slice A5 ((mget name d.seen).getD []).length c6) hat4 rfl Try.underlying58 Try.zeroValue22 rfl rfl (i := 2) rfl) ?_
  refine va rfl rfl rfl (q_move (v := .tuple #[.slice A5 ((mget name d.seen).getD []).length c6, .bool ((mget name d.seen).isSome)]) rfl (by kernel_rfl)) ?_
  refine va rfl rfl rfl (q_extract (v := .slice A5 ((mget name d.seen).getD []).length c6) rfl rfl rfl) ?_
  refine va rfl rfl rfl (q_extract (v := .bool ((mget name d.seen).isSome)) rfl rfl rfl) ?_
  refine va rfl rfl rfl (q_assign (v := .slice A5 ((mget name d.seen).getD []).length c6) rfl (by kernel_rfl)) ?_
  refine va rfl rfl rfl (q_assign (v := .bool ((mget name d.seen).isSome)) rfl (by kernel_rfl)) ?_
  refine WR.nil ?_
  change WC _ _ _ _ _ _
  refine WC.rs ?_
  refine va rfl rfl rfl (q_move (v := .slice A5 ((mget name d.seen).getD []).length c6) rfl (by kernel_rfl)) ?_
  obtain ⟨z9, hz10, h⟩ := bnd h
  refine e_call (is := []) rfl rfl (call_run Try.call27 rfl rfl (by kernel_rfl)) rfl (fun w hp => t_slices_Clone_byte_byte hs8 hc7 hp hz10) ?_
  rintro Γ11 U13 v14 hl12 ⟨A15, c16, row17, rfl, rfl, hr18, _⟩
  change WR _ _ _ (CC F Γ11 [row17, [(gd, .cells #[.int .i64 d.room, .map (some m1_1), .map (some m2_1), .slice A3_1 d.loose.length c3_1] ed (0, 0))], r1_1, r2_1, r3_1]) _ _ (upd _ 18 (.slice A15 z9.length c16))
  refine va rfl rfl rfl (q_move (v := .bool ((mget name d.seen).isSome)) rfl (by kernel_rfl)) ?_
  refine va rfl rfl rfl (q_assign (v := .slice A15 z9.length c16) rfl (by kernel_rfl)) ?_
  refine va rfl rfl rfl (q_assign (v := .bool ((mget name d.seen).isSome)) rfl (by kernel_rfl)) ?_
  refine WR.nil ?_
  change WC _ _ _ _ _ _
  refine WC.ret ?_
  intro w hw
  have hw := hw.fold (is := [1, 1, 1, 1]) rfl hrow_1
  obtain rfl := Option.some.inj h
  subst hF
  exact end_e (is := [0, 0]) (by kernel_rfl) hw rfl ⟨A15, c16, row17, rfl, rfl, hr18, trivial⟩
abbrev r_disk_Disk_Names (gd ed : Nat) (rowd : Rowb) (r : List ByteArray) (U : List Rowb) (Γ : Gh) (v : Value) : Prop := ∃ (A0 : Option Addr), ∃ (c0 : Nat), ∃ (row0 : Rowb), v = .slice A0 r.length c0 ∧ U = [rowd, row0] ∧ Own strT Γ 9 row0 A0 c0 r ∧ True
set_option maxRecDepth 100000 in
set_option maxHeartbeats 400000 in
theorem t_disk_Disk_Names {Γ : Gh} {w0 : World} {gd ed : Nat} {rowd : Rowb} {d : Odisk_Disk} (hd : Odisk_Disk.ob ed Γ gd rowd d) (hp : Pre [rowd] Γ w0) {r : List ByteArray} (h : m_disk_Disk_Names d = some r) : Calls Try.prog 15 #[.pointer (some ⟨gd, 0, none⟩)] w0 (Outc Γ [rowd] w0 (r_disk_Disk_Names gd ed rowd r)) := by
  refine calls_of (N := 9) (rs := [2]) (args := [.pointer (some ⟨gd, 0, none⟩)]) Try.func15 rfl Try.ntmps15 Try.results15 rfl ?_
  obtain ⟨F, hF⟩ : ∃ F : Fm, F = ⟨ids [rowd], w0, Γ⟩ := ⟨_, rfl⟩
  refine WC.here (C := CC F Γ [rowd]) ?_ (hF ▸ hp.start)
  refine WC.rs ?_
  refine va rfl rfl rfl (q_assign (v := .slice none 0 0) rfl (by kernel_rfl)) ?_
  refine WR.nil ?_
  change WC _ _ _ _ _ _
  refine WC.rs ?_
  refine va rfl rfl rfl (q_move (v := .pointer (some ⟨gd, 0, none⟩)) rfl (by kernel_rfl)) ?_
  refine va rfl rfl rfl (q_nil (A := some ⟨gd, 0, none⟩) rfl rfl rfl) ?_
  refine va rfl rfl rfl (q_fl 2 fld_61_2 rfl rfl rfl) ?_
  have hq := hd
  obtain ⟨m1_1, r1_1, m2_1, r2_1, A3_1, c3_1, r3_1, hrow_1, ho0_1, ho1_1, ho2_1, ho3_1, -⟩ := hq
  intro w hw; have hw := hw.unfold (i := 0) rfl hrow_1
  refine WR.here (C := CC F Γ [[(gd, .cells #[.int .i64 d.room, .map (some m1_1), .map (some m2_1), .slice A3_1 d.loose.length c3_1] ed (0, 0))], r1_1, r2_1, r3_1]) ?_ hw
  clear hw
  refine va rfl rfl rfl (q_ldl (i := 0) (v := .map (some m2_1)) rfl rfl Try.isAgg58 rfl rfl) ?_
  refine e_keys (ρ := keys34_ren) keys34 (mb := some m2_1) rfl rfl (call_run Try.call34 rfl rfl (by kernel_rfl)) ?_
  intro g2
  change WR _ _ _ (CC F Γ [[(g2, .cells #[.map (some m2_1)] 58 (0, 0))], [(gd, .cells #[.int .i64 d.room, .map (some m1_1), .map (some m2_1), .slice A3_1 d.loose.length c3_1] ed (0, 0))], r1_1, r2_1, r3_1]) _ _ (upd _ 7 (.func (.func 51) #[] #[.pointer (some ⟨g2, 0, none⟩)]))
  obtain ⟨hk3, h⟩ := chk_some h
  refine e_call (is := [0, 2]) rfl rfl (call_run Try.call33 rfl rfl (by kernel_rfl)) rfl (fun w hp => sk33_34 ho2_1 (of_decide_eq_true hk3) hp) ?_
  rintro Γ4 U6 v7 hl5 ⟨A8, c9, row10, rfl, rfl, ho11⟩
  change WR _ _ _ (CC F Γ4 [[(g2, .cells #[.map (some m2_1)] 58 (0, 0))], r2_1, row10, [(gd, .cells #[.int .i64 d.room, .map (some m1_1), .map (some m2_1), .slice A3_1 d.loose.length c3_1] ed (0, 0))], r1_1, r3_1]) _ _ (upd _ 8 (.slice A8 (skeys d.seen).length c9))
  refine va rfl rfl rfl (q_assign (v := .slice A8 (skeys d.seen).length c9) rfl (by kernel_rfl)) ?_
  refine WR.nil ?_
  change WC _ _ _ _ _ _
  refine WC.ret ?_
  intro w hw
  have hw := hw.fold (is := [3, 3, 1, 2]) rfl hrow_1
  obtain rfl := Option.some.inj h
  subst hF
  exact end_e (is := [0, 1]) (by kernel_rfl) hw rfl ⟨A8, c9, row10, rfl, rfl, ho11, trivial⟩
set_option maxRecDepth 100000 in
set_option maxHeartbeats 400000 in
theorem t_firthlaw07_awake {Γ : Gh} {w0 : World}  (hs : Sat Γ w0) {r : Bool} (h : m_firthlaw07_awake = some r) : Calls Try.prog 9 #[] w0 (fun e w' => e = .returned (.bool r) ∧ Fr no w0 w') := by
  refine calls_of (N := 60) (rs := [0]) (args := []) Try.func9 rfl Try.ntmps9 Try.results9 rfl ?_
  obtain ⟨F, hF⟩ : ∃ F : Fm, F = ⟨no, w0, Γ⟩ := ⟨_, rfl⟩
  refine WC.here (C := CC F Γ []) ?_ (hF ▸ Cur.start0 hs)
  refine WC.rs ?_
  refine va rfl rfl rfl (q_assign (v := .bool false) rfl (by kernel_rfl)) ?_
  refine WR.nil ?_
  change WC _ _ _ _ _ _
  refine WC.rs ?_
  obtain ⟨z1, hz2, h⟩ := bnd h
  refine e_call (is := []) rfl rfl (call_run Try.call10 rfl rfl (by kernel_rfl)) rfl (fun w hp => t_disk_New 9 (show I64 9 by decide) hp hz2) ?_
  rintro Γ3 U5 v6 hl4 ⟨g7, row8, rfl, rfl, hr9, _⟩
  change WR _ _ _ (CC F Γ3 [row8]) _ _ (upd _ 7 (.pointer (some ⟨g7, 0, none⟩)))
  refine va rfl rfl rfl (q_assign (v := .pointer (some ⟨g7, 0, none⟩)) rfl (by kernel_rfl)) ?_
  refine WR.nil ?_
  change WC _ _ _ _ _ _
  refine WC.seq ?_
  refine WC.rs ?_
  refine va rfl rfl rfl (q_move (v := .pointer (some ⟨g7, 0, none⟩)) rfl (by kernel_rfl)) ?_
  refine va rfl rfl rfl (q_ptr_eql (a := some ⟨g7, 0, none⟩) Try.underlying24 rfl rfl rfl) ?_
  refine va rfl rfl rfl (q_move (v := .bool false) rfl (by kernel_rfl)) ?_
  refine WR.sat (c0 := true) (g := false) rfl rfl rfl (notf rfl) ?_
  refine va rfl rfl rfl (q_move (v := .pointer (some ⟨g7, 0, none⟩)) rfl (by kernel_rfl)) ?_
  refine WR.sat (c0 := true) (g := false) rfl rfl rfl (notf rfl) ?_
  refine e_buildSlice (cs := #[.int .u8 120, .int .u8 121]) (e := 5) rfl rfl rfl rfl (fun w => by kernel_rfl) ?_
  intro g10
  refine WR.sat (c0 := true) (g := false) rfl rfl rfl (notf rfl) ?_
  refine e_convlit (i := 0) (ys := ([120, 121] : List UInt8)) Try.underlying22 Try.underlying5 rfl rfl rfl (by decide) rfl rfl rfl rfl rfl ?_
  intro Γ11 hl12 hs13
  change WR _ _ _ (CC F Γ11 [[], row8]) _ _ (upd _ 13 (.slice (some ⟨g10, 0, none⟩) ([120, 121] : List UInt8).length 2))
  refine WR.sat (c0 := true) (g := false) rfl rfl rfl (notf rfl) ?_
  obtain ⟨z14, hz15, h⟩ := bnd h
  refine e_call (is := [1]) rfl rfl (call_run Try.call11 rfl rfl (by kernel_rfl)) rfl (fun w hp => t_disk_Disk_Append (hr9.mono hl12) ⟨#[97]⟩ (show (⟨#[97]⟩ : ByteArray).size ≤ lim by decide) hs13 (Nat.le_refl _) hp hz15) ?_
  rintro Γ16 U18 v19 hl17 ⟨row20, rfl, rfl, hr21, hr22, _⟩
  change WR _ _ _ (CC F Γ16 [row20, []]) _ _ (upd _ 14 (.int .i64 z14.2))
  refine WR.sat (c0 := true) (g := false) rfl rfl rfl (notf rfl) ?_
  refine va rfl rfl rfl (q_neq rfl rfl rfl) ?_
  refine va rfl rfl rfl (q_pickf (v := .bool (z14.2 != 0)) rfl rfl rfl) ?_
  refine WR.nil ?_
  change WC _ _ _ _ _ _
  refine WC.cif h (by kernel_rfl) (fun hb23 h => ?_) (fun hb23 h => ?_)
  · skip
    refine WC.rs ?_
    refine va rfl rfl rfl (q_assign (v := .bool false) rfl (by kernel_rfl)) ?_
    refine WR.nil ?_
    change WC _ _ _ _ _ _
    refine WC.ret ?_
    intro w hw
    obtain rfl := Option.some.inj h
    subst hF
    exact ⟨by kernel_rfl, hw.fr⟩
  · skip
    refine WC.skip ?_
    change WC _ _ _ _ _ _
    refine WC.rs ?_
    refine va rfl rfl rfl (q_move (v := .pointer (some ⟨g7, 0, none⟩)) rfl (by kernel_rfl)) ?_
    obtain ⟨z24, hz25, h⟩ := bnd h
    refine e_call (is := [0]) rfl rfl (call_run Try.call25 rfl rfl (by kernel_rfl)) rfl (fun w hp => t_disk_Disk_Sync hr21 hp hz25) ?_
    rintro Γ26 U28 v29 hl27 ⟨row30, rfl, rfl, hr31, _⟩
    change WR _ _ _ (CC F Γ26 [row30, []]) _ _ (upd _ 18 (.tuple #[]))
    refine WR.nil ?_
    change WC _ _ _ _ _ _
    refine WC.rs ?_
    refine va rfl rfl rfl (q_move (v := .pointer (some ⟨g7, 0, none⟩)) rfl (by kernel_rfl)) ?_
    refine e_buildSlice (cs := #[.int .u8 122, .int .u8 49]) (e := 5) rfl rfl rfl rfl (fun w => by kernel_rfl) ?_
    intro g32
    refine e_convlit (i := 0) (ys := ([122, 49] : List UInt8)) Try.underlying22 Try.underlying5 rfl rfl rfl (by decide) rfl rfl rfl rfl rfl ?_
    intro Γ33 hl34 hs35
    change WR _ _ _ (CC F Γ33 [[], row30, []]) _ _ (upd _ 21 (.slice (some ⟨g32, 0, none⟩) ([122, 49] : List UInt8).length 2))
    obtain ⟨z36, hz37, h⟩ := bnd h
    refine e_call (is := [1]) rfl rfl (call_run Try.call11 rfl rfl (by kernel_rfl)) rfl (fun w hp => t_disk_Disk_Append (hr31.mono hl34) ⟨#[97]⟩ (show (⟨#[97]⟩ : ByteArray).size ≤ lim by decide) hs35 (Nat.le_refl _) hp hz37) ?_
    rintro Γ38 U40 v41 hl39 ⟨row42, rfl, rfl, hr43, hr44, _⟩
    change WR _ _ _ (CC F Γ38 [row42, [], []]) _ _ (upd _ 22 (.int .i64 z36.2))
    refine va rfl rfl rfl (q_assign (v := .int .i64 z36.2) rfl (by kernel_rfl)) ?_
    refine WR.nil ?_
    change WC _ _ _ _ _ _
    refine WC.rs ?_
    refine va rfl rfl rfl (q_move (v := .pointer (some ⟨g7, 0, none⟩)) rfl (by kernel_rfl)) ?_
    refine e_buildSlice (cs := #[.int .u8 113]) (e := 5) rfl rfl rfl rfl (fun w => by kernel_rfl) ?_
    intro g45
    refine e_convlit (i := 0) (ys := ([113] : List UInt8)) Try.underlying22 Try.underlying5 rfl rfl rfl (by decide) rfl rfl rfl rfl rfl ?_
    intro Γ46 hl47 hs48
    change WR _ _ _ (CC F Γ46 [[], row42, [], []]) _ _ (upd _ 25 (.slice (some ⟨g45, 0, none⟩) ([113] : List UInt8).length 1))
    obtain ⟨z49, hz50, h⟩ := bnd h
    refine e_call (is := [1]) rfl rfl (call_run Try.call11 rfl rfl (by kernel_rfl)) rfl (fun w hp => t_disk_Disk_Append (hr43.mono hl47) ⟨#[98]⟩ (show (⟨#[98]⟩ : ByteArray).size ≤ lim by decide) hs48 (Nat.le_refl _) hp hz50) ?_
    rintro Γ51 U53 v54 hl52 ⟨row55, rfl, rfl, hr56, hr57, _⟩
    change WR _ _ _ (CC F Γ51 [row55, [], [], []]) _ _ (upd _ 26 (.int .i64 z49.2))
    refine va rfl rfl rfl (q_assign (v := .int .i64 z49.2) rfl (by kernel_rfl)) ?_
    refine WR.nil ?_
    change WC _ _ _ _ _ _
    refine WC.rs ?_
    refine va rfl rfl rfl (q_move (v := .pointer (some ⟨g7, 0, none⟩)) rfl (by kernel_rfl)) ?_
    obtain ⟨z58, hz59, h⟩ := bnd h
    refine vc rfl rfl rfl (q_call (call_run Try.call17 rfl rfl (by kernel_rfl)) (fun w hw => t_disk_Disk_Loose (Γ := Gh.all w) (hr56.mono hw.sat.le_all) (hw.ra 0 rfl) (Sat.all w) hz59)) ?_
    refine va rfl rfl rfl (q_assign (v := .int .i64 z58) rfl (by kernel_rfl)) ?_
    refine WR.nil ?_
    change WC _ _ _ _ _ _
    refine WC.rs ?_
    refine va rfl rfl rfl (q_move (v := .pointer (some ⟨g7, 0, none⟩)) rfl (by kernel_rfl)) ?_
    obtain ⟨z60, hz61, h⟩ := bnd h
    refine e_call (is := [0]) rfl rfl (call_run Try.call13 rfl rfl (by kernel_rfl)) rfl (fun w hp => t_disk_Disk_Crash hr56 0 (show I64 0 by decide) 1 (show I64 1 by decide) hp hz61) ?_
    rintro Γ62 U64 v65 hl63 ⟨row66, rfl, rfl, hr67, _⟩
    change WR _ _ _ (CC F Γ62 [row66, [], [], []]) _ _ (upd _ 30 (.tuple #[]))
    refine WR.nil ?_
    change WC _ _ _ _ _ _
    refine WC.rs ?_
    refine va rfl rfl rfl (q_move (v := .pointer (some ⟨g7, 0, none⟩)) rfl (by kernel_rfl)) ?_
    obtain ⟨z68, hz69, h⟩ := bnd h
    refine e_call (is := [0]) rfl rfl (call_run Try.call12 rfl rfl (by kernel_rfl)) rfl (fun w hp => t_disk_Disk_Read hr67 ⟨#[97]⟩ (show (⟨#[97]⟩ : ByteArray).size ≤ lim by decide) hp hz69) ?_
    rintro Γ70 U72 v73 hl71 ⟨A74, c75, row76, rfl, rfl, hr77, _⟩
    change WR _ _ _ (CC F Γ70 [row66, row76, [], [], []]) _ _ (upd _ 33 (.tuple #[.slice A74 z68.1.length c75, .bool z68.2]))
    refine va rfl rfl rfl (q_move (v := .tuple #[.slice A74 z68.1.length c75, .bool z68.2]) rfl (by kernel_rfl)) ?_
    refine va rfl rfl rfl (q_extract (v := .slice A74 z68.1.length c75) rfl rfl rfl) ?_
    refine va rfl rfl rfl (q_extract (v := .bool z68.2) rfl rfl rfl) ?_
    refine va rfl rfl rfl (q_assign (v := .slice A74 z68.1.length c75) rfl (by kernel_rfl)) ?_
    refine va rfl rfl rfl (q_assign (v := .bool z68.2) rfl (by kernel_rfl)) ?_
    refine WR.nil ?_
    change WC _ _ _ _ _ _
    refine WC.rs ?_
    refine va rfl rfl rfl (q_move (v := .int .i64 z36.2) rfl (by kernel_rfl)) ?_
    refine va rfl rfl rfl (q_eql rfl rfl rfl) ?_
    refine va rfl rfl rfl (q_move (v := .bool (z36.2 == 0)) rfl (by kernel_rfl)) ?_
    refine vg1 rfl rfl rfl rfl rfl (fun hg78 => QV.qo (q_move (v := .int .i64 z49.2) rfl (by kernel_rfl))) ?_
    refine vg1 rfl rfl rfl rfl rfl (fun hg79 => QV.qo (q_eql rfl (gu hg79 rfl) rfl)) ?_
    refine va rfl rfl rfl (q_pick rfl rfl (pk_and' (g := (z36.2 == 0)) (y := (z49.2 == 0)))) ?_
    refine va rfl rfl rfl (q_move (v := .bool ((z36.2 == 0) && (z49.2 == 0))) rfl (by kernel_rfl)) ?_
    refine vg1 rfl rfl rfl rfl rfl (fun hg80 => QV.qo (q_move (v := .int .i64 z58) rfl (by kernel_rfl))) ?_
    refine vg1 rfl rfl rfl rfl rfl (fun hg81 => QV.qo (q_eql rfl (gu hg81 rfl) rfl)) ?_
    refine va rfl rfl rfl (q_pick rfl rfl (pk_and' (g := ((z36.2 == 0) && (z49.2 == 0))) (y := (z58 == 2)))) ?_
    refine va rfl rfl rfl (q_move (v := .bool (((z36.2 == 0) && (z49.2 == 0)) && (z58 == 2))) rfl (by kernel_rfl)) ?_
    refine vg1 rfl rfl rfl rfl rfl (fun hg82 => QV.qo (q_move (v := .bool z68.2) rfl (by kernel_rfl))) ?_
    refine va rfl rfl rfl (q_pick rfl rfl (pk_and' (g := (((z36.2 == 0) && (z49.2 == 0)) && (z58 == 2))) (y := z68.2))) ?_
    refine va rfl rfl rfl (q_move (v := .bool ((((z36.2 == 0) && (z49.2 == 0)) && (z58 == 2)) && z68.2)) rfl (by kernel_rfl)) ?_
    refine vg1 rfl rfl rfl rfl rfl (fun hg83 => QV.qo (q_move (v := .slice A74 z68.1.length c75) rfl (by kernel_rfl))) ?_
    refine vg1 rfl rfl rfl rfl rfl (fun hg84 => QV.qo (q_bstro (i := 1) rfl hr77 Try.underlying22 Try.underlying5 Try.underlying9 rfl (gu hg84 rfl))) ?_
    refine vg1 rfl rfl rfl rfl rfl (fun hg85 => QV.qo (q_seql rfl (gu hg85 rfl) rfl)) ?_
    refine va rfl rfl rfl (q_pick rfl rfl (pk_and' (g := ((((z36.2 == 0) && (z49.2 == 0)) && (z58 == 2)) && z68.2)) (y := ((⟨z68.1.toArray⟩ : ByteArray) == ⟨#[120, 121, 122]⟩)))) ?_
    refine va rfl rfl rfl (q_move (v := .bool (((((z36.2 == 0) && (z49.2 == 0)) && (z58 == 2)) && z68.2) && ((⟨z68.1.toArray⟩ : ByteArray) == ⟨#[120, 121, 122]⟩))) rfl (by kernel_rfl)) ?_
    refine vg1 rfl rfl rfl rfl rfl (fun hg86 => QV.qo (q_move (v := .pointer (some ⟨g7, 0, none⟩)) rfl (by kernel_rfl))) ?_
    refine (Bool.eq_false_or_eq_true (((((z36.2 == 0) && (z49.2 == 0)) && (z58 == 2)) && z68.2) && ((⟨z68.1.toArray⟩ : ByteArray) == ⟨#[120, 121, 122]⟩))).elim (fun hb87 => ?_) (fun hb87 => ?_)
    · skip
      have h := bt hb87 h
      refine WR.sat (c0 := true) (g := (((((z36.2 == 0) && (z49.2 == 0)) && (z58 == 2)) && z68.2) && ((⟨z68.1.toArray⟩ : ByteArray) == ⟨#[120, 121, 122]⟩))) rfl rfl rfl hb87 ?_
      obtain ⟨z88, hz89, h⟩ := bnd h
      refine e_call (is := [0]) rfl rfl (call_run Try.call15 rfl rfl (args1 (gu hb87 rfl))) rfl (fun w hp => t_disk_Disk_Names (hr67.mono hl71) hp hz89) ?_
      rintro Γ90 U92 v93 hl91 ⟨A94, c95, row96, rfl, rfl, hr97, _⟩
      change WR _ _ _ (CC F Γ90 [row66, row96, row76, [], [], []]) _ _ (upd _ 56 (.slice A94 z88.length c95))
      refine WR.sat (c0 := true) (g := (((((z36.2 == 0) && (z49.2 == 0)) && (z58 == 2)) && z68.2) && ((⟨z68.1.toArray⟩ : ByteArray) == ⟨#[120, 121, 122]⟩))) rfl rfl rfl hb87 ?_
      refine va rfl rfl rfl (q_len_slice rfl Try.underlying33 rfl) ?_
      refine WR.sat (c0 := true) (g := (((((z36.2 == 0) && (z49.2 == 0)) && (z58 == 2)) && z68.2) && ((⟨z68.1.toArray⟩ : ByteArray) == ⟨#[120, 121, 122]⟩))) rfl rfl rfl hb87 ?_
      refine va rfl rfl rfl (q_eql rfl rfl rfl) ?_
      refine va rfl rfl rfl (q_pick_t (v := .bool (((z88.length : Nat) : Int) == 1)) rfl rfl hb87 (by kernel_rfl)) ?_
      refine va rfl rfl rfl (q_assign (v := .bool (((z88.length : Nat) : Int) == 1)) rfl (by kernel_rfl)) ?_
      refine WR.nil ?_
      change WC _ _ _ _ _ _
      refine WC.ret ?_
      intro w hw
      obtain rfl := Option.some.inj h
      subst hF
      exact ⟨by kernel_rfl, hw.fr⟩
    · skip
      have h := bf hb87 h
      refine WR.unsat (c0 := true) (g := (((((z36.2 == 0) && (z49.2 == 0)) && (z58 == 2)) && z68.2) && ((⟨z68.1.toArray⟩ : ByteArray) == ⟨#[120, 121, 122]⟩))) rfl rfl rfl hb87 rfl ?_
      refine WR.unsat (c0 := true) (g := (((((z36.2 == 0) && (z49.2 == 0)) && (z58 == 2)) && z68.2) && ((⟨z68.1.toArray⟩ : ByteArray) == ⟨#[120, 121, 122]⟩))) rfl rfl rfl hb87 rfl ?_
      refine WR.unsat (c0 := true) (g := (((((z36.2 == 0) && (z49.2 == 0)) && (z58 == 2)) && z68.2) && ((⟨z68.1.toArray⟩ : ByteArray) == ⟨#[120, 121, 122]⟩))) rfl rfl rfl hb87 rfl ?_
      refine va rfl rfl rfl (q_pick_f (v := .bool false) rfl rfl hb87 (by kernel_rfl)) ?_
      refine va rfl rfl rfl (q_assign (v := .bool false) rfl (by kernel_rfl)) ?_
      refine WR.nil ?_
      change WC _ _ _ _ _ _
      refine WC.ret ?_
      intro w hw
      obtain rfl := Option.some.inj h
      subst hF
      exact ⟨by kernel_rfl, hw.fr⟩
abbrev r_firthref07_New (r : Ofirthref07_Disk) (U : List Rowb) (Γ : Gh) (v : Value) : Prop := ∃ (g0 : Nat), ∃ (row0 : Rowb), v = .pointer (some ⟨g0, 0, none⟩) ∧ U = [row0] ∧ Ofirthref07_Disk.ob 47 Γ g0 row0 r ∧ True
set_option maxRecDepth 100000 in
set_option maxHeartbeats 400000 in
theorem t_firthref07_New {Γ : Gh} {w0 : World} (room : Int) (hroom : I64 room) (hp : Pre [] Γ w0) {r : Ofirthref07_Disk} (h : m_firthref07_New room = some r) : Calls Try.prog 19 #[.int .i64 room] w0 (Outc Γ [] w0 (r_firthref07_New r)) := by
  refine calls_of (N := 10) (rs := [2]) (args := [.int .i64 room]) Try.func19 rfl Try.ntmps19 Try.results19 rfl ?_
  obtain ⟨F, hF⟩ : ∃ F : Fm, F = ⟨ids [], w0, Γ⟩ := ⟨_, rfl⟩
  refine WC.here (C := CC F Γ []) ?_ (hF ▸ hp.start)
  refine WC.rs ?_
  refine va rfl rfl rfl (q_assign (v := .pointer none) rfl (by kernel_rfl)) ?_
  refine WR.nil ?_
  change WC _ _ _ _ _ _
  refine WC.cut (fun σ w => ∃ (room_1 : Int), m_firthref07_New_j1 room_1 = some r ∧ slots σ [(0, .int .i64 room_1)] ∧ CC F Γ [] w ∧ I64 room_1 ∧ True) ?_ ?_
  · skip
    refine WC.rs ?_
    refine va rfl rfl rfl (q_move (v := .int .i64 room) rfl (by kernel_rfl)) ?_
    refine va rfl rfl rfl (q_lss rfl rfl rfl) ?_
    refine WR.nil ?_
    change WC _ _ _ _ _ _
    refine WC.cif h (by kernel_rfl) (fun hb3 h => ?_) (fun hb3 h => ?_)
    · skip
      refine WC.region ?_
      refine va rfl rfl rfl (q_assign (v := .int .i64 0) rfl (by kernel_rfl)) ?_
      refine WR.nil ?_
      intro w hw
      exact ⟨0, h, (sl_ (by kernel_rfl)), hw, (show I64 0 by decide), trivial⟩
    · skip
      refine WC.skip ?_
      intro w hw
      exact ⟨room, h, (sl_ (by kernel_rfl)), hw, hroom, trivial⟩
  · skip
    rintro σ w ⟨room_1, h, hsl, hw, hr2, -⟩
    refine Wpt.slots hsl ?_
    refine WC.here (C := CC F Γ []) ?_ hw
    clear hw hsl
    refine WC.cut (fun σ w => ∃ (room_4 : Int), m_firthref07_New_j2 room_4 = some r ∧ slots σ [(0, .int .i64 room_4)] ∧ CC F Γ [] w ∧ I64 room_4 ∧ True) ?_ ?_
    · skip
      refine WC.rs ?_
      refine va rfl rfl rfl (q_move (v := .int .i64 room_1) rfl (by kernel_rfl)) ?_
      refine va rfl rfl rfl (q_gtr rfl rfl rfl) ?_
      refine WR.nil ?_
      change WC _ _ _ _ _ _
      refine WC.cif h (by kernel_rfl) (fun hb6 h => ?_) (fun hb6 h => ?_)
      · skip
        refine WC.region ?_
        refine va rfl rfl rfl (q_assign (v := .int .i64 1073741824) rfl (by kernel_rfl)) ?_
        refine WR.nil ?_
        intro w hw
        exact ⟨1073741824, h, (sl_ (by kernel_rfl)), hw, (show I64 1073741824 by decide), trivial⟩
      · skip
        refine WC.skip ?_
        intro w hw
        exact ⟨room_1, h, (sl_ (by kernel_rfl)), hw, hr2, trivial⟩
    · skip
      rintro σ w ⟨room_4, h, hsl, hw, hr5, -⟩
      refine Wpt.slots hsl ?_
      refine WC.here (C := CC F Γ []) ?_ hw
      clear hw hsl
      refine WC.rs ?_
      refine va rfl rfl rfl (q_move (v := .int .i64 room_4) rfl (by kernel_rfl)) ?_
      refine va rfl rfl rfl (q_build' (v := .agg #[.int .i64 room_4, .slice none 0 0, .slice none 0 0]) rfl (bargs1 rfl) (fun w => by kernel_rfl)) ?_
      refine e_box (v := .agg #[.int .i64 room_4, .slice none 0 0, .slice none 0 0]) rfl rfl rfl rfl (by kernel_rfl) ?_
      intro g7
      refine va rfl rfl rfl (q_assign (v := .pointer (some ⟨g7, 0, none⟩)) rfl (by kernel_rfl)) ?_
      refine WR.nil ?_
      change WC _ _ _ _ _ _
      refine WC.ret ?_
      intro w hw
      have hw := hw.pad
      obtain ⟨row_8, hrow_8, hob_8⟩ : ∃ rw : Rowb, rw = ([[(g7, .cells #[.int .i64 room_4, .slice none 0 0, .slice none 0 0] 47 (0, 0))], []] : List Rowb).flatten ∧ Ofirthref07_Disk.ob 47 Γ g7 rw (⟨room_4, [], []⟩ : Ofirthref07_Disk) := ⟨_, rfl, none, 0, none, 0, [], rfl, hr5, (Nat.zero_le 0), (Sl.nil _ _ none), (Own.nil dfirthref07_ChangeT Γ 83), trivial⟩
      have hw := hw.fold (is := [1, 0]) rfl hrow_8
      obtain rfl := Option.some.inj h
      subst hF
      exact end_e (is := [0]) (by kernel_rfl) hw rfl ⟨g7, row_8, rfl, rfl, hob_8, trivial⟩
set_option maxRecDepth 100000 in
set_option maxHeartbeats 400000 in
theorem t_firthref07_wrong {Γ : Gh} {w0 : World} (s_ : ByteArray) (hs_ : s_.size ≤ lim) (hs : Sat Γ w0) {r : Bool} (h : m_firthref07_wrong s_ = some r) : Calls Try.prog 60 #[.string s_] w0 (fun e w' => e = .returned (.bool r) ∧ Fr no w0 w') := by
  refine calls_of (N := 10) (rs := [2]) (args := [.string s_]) Try.func60 rfl Try.ntmps60 Try.results60 rfl ?_
  obtain ⟨F, hF⟩ : ∃ F : Fm, F = ⟨no, w0, Γ⟩ := ⟨_, rfl⟩
  refine WC.here (C := CC F Γ []) ?_ (hF ▸ Cur.start0 hs)
  refine WC.rs ?_
  refine va rfl rfl rfl (q_assign (v := .bool false) rfl (by kernel_rfl)) ?_
  refine WR.nil ?_
  change WC _ _ _ _ _ _
  refine WC.rs ?_
  refine va rfl rfl rfl (q_move (v := .string s_) rfl (by kernel_rfl)) ?_
  refine va rfl rfl rfl (q_seql rfl rfl rfl) ?_
  refine va rfl rfl rfl (q_move (v := .bool (s_ == ByteArray.empty)) rfl (by kernel_rfl)) ?_
  refine vg0 rfl rfl rfl rfl rfl (fun hg1 => QV.qo (q_move (v := .string s_) rfl (by kernel_rfl))) ?_
  refine vg0 rfl rfl rfl rfl rfl (fun hg2 => QV.qo (q_len_str rfl Try.underlying9 (gu hg2 rfl))) ?_
  refine vg0 rfl rfl rfl rfl rfl (fun hg3 => QV.qo (q_gtr rfl (gu hg3 rfl) rfl)) ?_
  refine va rfl rfl rfl (q_pick rfl rfl (pk_or' (g := (s_ == ByteArray.empty)) (y := (decide (16 < ((s_.size : Nat) : Int)))))) ?_
  refine va rfl rfl rfl (q_assign (v := .bool ((s_ == ByteArray.empty) || (decide (16 < ((s_.size : Nat) : Int))))) rfl (by kernel_rfl)) ?_
  refine WR.nil ?_
  change WC _ _ _ _ _ _
  refine WC.ret ?_
  intro w hw
  obtain rfl := Option.some.inj h
  subst hF
  exact ⟨by kernel_rfl, hw.fr⟩
set_option maxRecDepth 100000 in
set_option maxHeartbeats 400000 in
theorem t_firthref07_find {Γ : Gh} {w0 : World} {Al : Option Addr} {cl : Nat} {l : List Dfirthref07_File} (hl : Sl dfirthref07_FileT Γ Al l) (hlc : l.length ≤ cl) (name : ByteArray) (hname : name.size ≤ lim) (hs : Sat Γ w0) {r : Int} (h : m_firthref07_find l name = some r) : Calls Try.prog 61 #[.slice Al l.length cl, .string name] w0 (fun e w' => e = .returned (.int .i64 r) ∧ Fr no w0 w') := by
  refine calls_of (N := 20) (rs := [4]) (args := [.slice Al l.length cl, .string name]) Try.func61 rfl Try.ntmps61 Try.results61 rfl ?_
  obtain ⟨F, hF⟩ : ∃ F : Fm, F = ⟨no, w0, Γ⟩ := ⟨_, rfl⟩
  refine WC.here (C := CC F Γ []) ?_ (hF ▸ Cur.start0 hs)
  refine WC.rs ?_
  refine va rfl rfl rfl (q_assign (v := .int .i64 0) rfl (by kernel_rfl)) ?_
  refine WR.nil ?_
  change WC _ _ _ _ _ _
  refine WC.seq ?_
  refine WC.rs ?_
  refine va rfl rfl rfl (q_assign (v := .int .i64 0) rfl (by kernel_rfl)) ?_
  refine WR.nil ?_
  change WC _ _ _ _ _ _
  refine WC.block ?_
  refine WC.forI h (fun (i2 : Nat) (s : Unit) σ w => match s with | () => slots σ [(0, .slice Al l.length cl), (1, .string name), (5, .int .i64 ((i2 : Nat) : Int))] ∧ CC F Γ [] w ∧ True) ?_ ?_
  · skip
    intro w hw
    exact ⟨(sl_ (by kernel_rfl)), hw, trivial⟩
  rintro f1 i2 ⟨⟩ σ w hi3 hlt4 hge5 ⟨hsl, hw, -⟩
  refine Wpt.slots hsl ?_
  refine WC.here (C := CC F Γ []) ?_ hw
  clear hw hsl
  refine WC.seq ?_
  refine WC.rs ?_
  refine va rfl rfl rfl (q_move (v := .int .i64 ((i2 : Nat) : Int)) rfl (by kernel_rfl)) ?_
  refine va rfl rfl rfl (q_move (v := .slice Al l.length cl) rfl (by kernel_rfl)) ?_
  refine va rfl rfl rfl (q_len_slice rfl Try.underlying44 rfl) ?_
  refine va rfl rfl rfl (q_lss rfl rfl rfl) ?_
  refine WR.nil ?_
  change WC _ _ _ _ _ _
  refine WC.cond (b := (decide (((i2 : Nat) : Int) < ((l.length : Nat) : Int)))) (by kernel_rfl) (fun hb6 => ?_) (fun hb6 => ?_)
  · skip
    have hl7 := ilt hb6
    have h := hlt4 hl7
    refine WC.skip ?_
    change WC _ _ _ _ _ _
    refine WC.seq ?_
    refine WC.block ?_
    refine WC.rs ?_
    refine va rfl rfl rfl (q_move (v := .slice Al l.length cl) rfl (by kernel_rfl)) ?_
    refine va rfl rfl rfl (q_move (v := .int .i64 ((i2 : Nat) : Int)) rfl (by kernel_rfl)) ?_
    refine va rfl rfl rfl (q_ixn (i := i2) Try.underlying44 Try.sizeOf80 rfl rfl rfl hl7 (hl.some_ hl7)) ?_
    refine va rfl rfl rfl (q_field_addr (i2 * 2) fld_80_0 rfl rfl (hl.some_ hl7) rfl) ?_
    obtain ⟨A8, c9, hx10⟩ := hl.dfirthref07_FileT_at i2
    refine va rfl rfl rfl (q_ld (c := 0) (v := .string (gt l i2).name) (hx10 hl7).2 rfl Try.isAgg9 rfl rfl) ?_
    refine va rfl rfl rfl (q_move (v := .string name) rfl (by kernel_rfl)) ?_
    refine va rfl rfl rfl (q_seql rfl rfl rfl) ?_
    refine WR.nil ?_
    change WC _ _ _ _ _ _
    refine WC.cif h (by kernel_rfl) (fun hb11 h => ?_) (fun hb11 h => ?_)
    · skip
      refine WC.rs ?_
      refine va rfl rfl rfl (q_move (v := .int .i64 ((i2 : Nat) : Int)) rfl (by kernel_rfl)) ?_
      refine va rfl rfl rfl (q_assign (v := .int .i64 ((i2 : Nat) : Int)) rfl (by kernel_rfl)) ?_
      refine WR.nil ?_
      change WC _ _ _ _ _ _
      refine WC.ret ?_
      intro w hw
      obtain rfl := Option.some.inj h
      subst hF
      exact ⟨by kernel_rfl, hw.fr⟩
    · skip
      refine WC.skip ?_
      change WC _ _ _ _ _ _
      refine WC.region ?_
      refine va rfl rfl rfl (q_move (v := .int .i64 ((i2 : Nat) : Int)) rfl (by kernel_rfl)) ?_
      refine va rfl rfl rfl (q_add_r (r := ((i2 + 1 : Nat) : Int)) rfl rfl rfl (ctr_len hl7 hl.le)) ?_
      refine va rfl rfl rfl (q_assign (v := .int .i64 ((i2 + 1 : Nat) : Int)) rfl (by kernel_rfl)) ?_
      refine WR.nil ?_
      intro w hw
      exact ⟨hl7, (), h, (sl_ (by kernel_rfl)), hw, trivial⟩
  · skip
    have h := hge5 (ige hb6)
    refine WC.exit ?_
    change WC _ _ _ _ _ _
    refine WC.rs ?_
    refine va rfl rfl rfl (q_assign (v := .int .i64 (-1)) rfl (by kernel_rfl)) ?_
    refine WR.nil ?_
    change WC _ _ _ _ _ _
    refine WC.ret ?_
    intro w hw
    obtain rfl := Option.some.inj h
    subst hF
    exact ⟨by kernel_rfl, hw.fr⟩
abbrev r_firthref07_data (r : List UInt8) (U : List Rowb) (Γ : Gh) (v : Value) : Prop := ∃ (A0 : Option Addr), ∃ (c0 : Nat), ∃ (row0 : Rowb), v = .slice A0 r.length c0 ∧ U = [row0] ∧ Own byteT Γ 5 row0 A0 c0 r ∧ True
set_option maxRecDepth 100000 in
set_option maxHeartbeats 400000 in
theorem t_firthref07_data {Γ : Gh} {w0 : World} {Al : Option Addr} {cl : Nat} {l : List Dfirthref07_File} (hl : Sl dfirthref07_FileT Γ Al l) (hlc : l.length ≤ cl) (name : ByteArray) (hname : name.size ≤ lim) (hp : Pre [] Γ w0) {r : List UInt8} (h : m_firthref07_data l name = some r) : Calls Try.prog 54 #[.slice Al l.length cl, .string name] w0 (Outc Γ [] w0 (r_firthref07_data r)) := by
  refine calls_of (N := 20) (rs := [4]) (args := [.slice Al l.length cl, .string name]) Try.func54 rfl Try.ntmps54 Try.results54 rfl ?_
  obtain ⟨F, hF⟩ : ∃ F : Fm, F = ⟨ids [], w0, Γ⟩ := ⟨_, rfl⟩
  refine WC.here (C := CC F Γ []) ?_ (hF ▸ hp.start)
  refine WC.rs ?_
  refine va rfl rfl rfl (q_assign (v := .slice none 0 0) rfl (by kernel_rfl)) ?_
  refine WR.nil ?_
  change WC _ _ _ _ _ _
  refine WC.rs ?_
  refine va rfl rfl rfl (q_assign (v := .slice none 0 0) rfl (by kernel_rfl)) ?_
  refine WR.nil ?_
  change WC _ _ _ _ _ _
  refine WC.rs ?_
  refine va rfl rfl rfl (q_move (v := .slice Al l.length cl) rfl (by kernel_rfl)) ?_
  refine va rfl rfl rfl (q_move (v := .string name) rfl (by kernel_rfl)) ?_
  obtain ⟨z1, hz2, h⟩ := bnd h
  refine vc rfl rfl rfl (q_call (call_run Try.call61 rfl rfl (by kernel_rfl)) (fun w hw => t_firthref07_find (Γ := Gh.all w) (hl.mono hw.sat.le_all) hlc name hname (Sat.all w) hz2)) ?_
  refine va rfl rfl rfl (q_assign (v := .int .i64 z1) rfl (by kernel_rfl)) ?_
  refine WR.nil ?_
  change WC _ _ _ _ _ _
  refine WC.seq ?_
  refine WC.rs ?_
  refine va rfl rfl rfl (q_move (v := .int .i64 z1) rfl (by kernel_rfl)) ?_
  refine va rfl rfl rfl (q_geq rfl rfl rfl) ?_
  refine WR.nil ?_
  change WC _ _ _ _ _ _
  refine WC.cif h (by kernel_rfl) (fun hb3 h => ?_) (fun hb3 h => ?_)
  · skip
    refine WC.region ?_
    refine va rfl rfl rfl (q_move (v := .slice none 0 0) rfl (by kernel_rfl)) ?_
    refine va rfl rfl rfl (q_move (v := .slice Al l.length cl) rfl (by kernel_rfl)) ?_
    refine va rfl rfl rfl (q_move (v := .int .i64 z1) rfl (by kernel_rfl)) ?_
    obtain ⟨hk4, h⟩ := chk_some h
    refine va rfl rfl rfl (q_ix Try.underlying44 Try.sizeOf80 rfl rfl rfl hk4 (hl.some_ (inb_lt hk4))) ?_
    refine va rfl rfl rfl (q_field_addr (z1.toNat * 2 + 1) fld_80_1 rfl rfl (hl.some_ (inb_lt hk4)) rfl) ?_
    obtain ⟨A5, c6, hx7⟩ := hl.dfirthref07_FileT_at z1.toNat
    refine va rfl rfl rfl (q_ld (c := 1) (v := .slice A5 ((gt l z1.toNat).data).length c6) (hx7 (inb_lt hk4)).2 rfl Try.isAgg22 rfl rfl) ?_
    refine WR.sub (fun w hw => hw.pad) ?_
    obtain ⟨hk8, h⟩ := chk_some h
    refine e_append (T := byteT) (xs := []) (ys := (gt l z1.toNat).data) elem_22 (i := 0) rfl rfl rfl rfl (by kernel_rfl) rfl rfl (Own.nil byteT Γ 5) (of_decide_eq_true hk8) (fun w hw => src_sl (hx7 (inb_lt hk4)).1.2.2 hw) ?_
    intro row9 A10 c11 ho12
    refine va rfl rfl rfl (q_assign (v := .slice A10 (gt l z1.toNat).data.length c11) rfl (by kernel_rfl)) ?_
    refine WR.nil ?_
    change WC _ _ _ _ _ _
    refine WC.rs ?_
    refine va rfl rfl rfl (q_move (v := .slice A10 (gt l z1.toNat).data.length c11) rfl (by kernel_rfl)) ?_
    refine va rfl rfl rfl (q_assign (v := .slice A10 (gt l z1.toNat).data.length c11) rfl (by kernel_rfl)) ?_
    refine WR.nil ?_
    change WC _ _ _ _ _ _
    refine WC.ret ?_
    intro w hw
    obtain rfl := Option.some.inj h
    subst hF
    exact end_e (is := [0]) (by kernel_rfl) hw rfl ⟨A10, c11, row9, rfl, rfl, ho12, trivial⟩
  · skip
    refine WC.skip ?_
    change WC _ _ _ _ _ _
    refine WC.rs ?_
    refine va rfl rfl rfl (q_move (v := .slice none 0 0) rfl (by kernel_rfl)) ?_
    refine va rfl rfl rfl (q_assign (v := .slice none 0 0) rfl (by kernel_rfl)) ?_
    refine WR.nil ?_
    change WC _ _ _ _ _ _
    refine WC.ret ?_
    intro w hw
    have hw := hw.pad
    obtain rfl := Option.some.inj h
    subst hF
    exact end_e (is := [0]) (by kernel_rfl) hw rfl ⟨none, 0, [], rfl, rfl, (Own.nil byteT _ 5), trivial⟩
abbrev r_firthref07_without (r : List Dfirthref07_File) (U : List Rowb) (Γ : Gh) (v : Value) : Prop := ∃ (A0 : Option Addr), ∃ (c0 : Nat), ∃ (row0 : Rowb), v = .slice A0 r.length c0 ∧ U = [row0] ∧ Own dfirthref07_FileT Γ 80 row0 A0 c0 r ∧ True
set_option maxRecDepth 100000 in
set_option maxHeartbeats 400000 in
theorem t_firthref07_without {Γ : Gh} {w0 : World} {Al : Option Addr} {cl : Nat} {l : List Dfirthref07_File} (hl : Sl dfirthref07_FileT Γ Al l) (hlc : l.length ≤ cl) (name : ByteArray) (hname : name.size ≤ lim) (hp : Pre [] Γ w0) {r : List Dfirthref07_File} (h : m_firthref07_without l name = some r) : Calls Try.prog 56 #[.slice Al l.length cl, .string name] w0 (Outc Γ [] w0 (r_firthref07_without r)) := by
  refine calls_of (N := 28) (rs := [4]) (args := [.slice Al l.length cl, .string name]) Try.func56 rfl Try.ntmps56 Try.results56 rfl ?_
  obtain ⟨F, hF⟩ : ∃ F : Fm, F = ⟨ids [], w0, Γ⟩ := ⟨_, rfl⟩
  refine WC.here (C := CC F Γ []) ?_ (hF ▸ hp.start)
  refine WC.rs ?_
  refine va rfl rfl rfl (q_assign (v := .slice none 0 0) rfl (by kernel_rfl)) ?_
  refine WR.nil ?_
  change WC _ _ _ _ _ _
  refine WC.rs ?_
  refine va rfl rfl rfl (q_assign (v := .slice none 0 0) rfl (by kernel_rfl)) ?_
  refine WR.nil ?_
  change WC _ _ _ _ _ _
  refine WC.seq ?_
  refine WC.rs ?_
  refine va rfl rfl rfl (q_assign (v := .int .i64 0) rfl (by kernel_rfl)) ?_
  refine WR.nil ?_
  change WC _ _ _ _ _ _
  refine WC.block ?_
  refine WC.forI h (fun (i7 : Nat) (out_1 : List Dfirthref07_File) σ w => ∃ (A2 : Option Addr), ∃ (c3 : Nat), ∃ (row4 : Rowb), slots σ [(0, .slice Al l.length cl), (1, .string name), (5, .slice A2 out_1.length c3), (6, .int .i64 ((i7 : Nat) : Int))] ∧ CC F Γ [row4] w ∧ Own dfirthref07_FileT Γ 80 row4 A2 c3 out_1 ∧ True) ?_ ?_
  · skip
    intro w hw
    have hw := hw.pad
    exact ⟨none, 0, [], (sl_ (by kernel_rfl)), hw, (Own.nil dfirthref07_FileT _ 80), trivial⟩
  rintro f6 i7 out_1 σ w hi8 hlt9 hge10 ⟨A2, c3, row4, hsl, hw, ho5, -⟩
  refine Wpt.slots hsl ?_
  refine WC.here (C := CC F Γ [row4]) ?_ hw
  clear hw hsl
  refine WC.seq ?_
  refine WC.rs ?_
  refine va rfl rfl rfl (q_move (v := .int .i64 ((i7 : Nat) : Int)) rfl (by kernel_rfl)) ?_
  refine va rfl rfl rfl (q_move (v := .slice Al l.length cl) rfl (by kernel_rfl)) ?_
  refine va rfl rfl rfl (q_len_slice rfl Try.underlying44 rfl) ?_
  refine va rfl rfl rfl (q_lss rfl rfl rfl) ?_
  refine WR.nil ?_
  change WC _ _ _ _ _ _
  refine WC.cond (b := (decide (((i7 : Nat) : Int) < ((l.length : Nat) : Int)))) (by kernel_rfl) (fun hb11 => ?_) (fun hb11 => ?_)
  · skip
    have hl12 := ilt hb11
    have h := hlt9 hl12
    refine WC.skip ?_
    change WC _ _ _ _ _ _
    refine WC.cut (fun σ w => ∃ (out_13 : List Dfirthref07_File), ∃ (A14 : Option Addr), ∃ (c15 : Nat), ∃ (row16 : Rowb), m_firthref07_without_j5 f6 out_13 = some r ∧ slots σ [(0, .slice Al l.length cl), (1, .string name), (5, .slice A14 out_13.length c15), (6, .int .i64 ((i7 : Nat) : Int))] ∧ CC F Γ [row16] w ∧ Own dfirthref07_FileT Γ 80 row16 A14 c15 out_13 ∧ True) ?_ ?_
    · skip
      refine WC.block ?_
      refine WC.rs ?_
      refine va rfl rfl rfl (q_move (v := .slice Al l.length cl) rfl (by kernel_rfl)) ?_
      refine va rfl rfl rfl (q_move (v := .int .i64 ((i7 : Nat) : Int)) rfl (by kernel_rfl)) ?_
      refine va rfl rfl rfl (q_ixn (i := i7) Try.underlying44 Try.sizeOf80 rfl rfl rfl hl12 (hl.some_ hl12)) ?_
      refine va rfl rfl rfl (q_field_addr (i7 * 2) fld_80_0 rfl rfl (hl.some_ hl12) rfl) ?_
      obtain ⟨A18, c19, hx20⟩ := hl.dfirthref07_FileT_at i7
      refine va rfl rfl rfl (q_ld (c := 0) (v := .string (gt l i7).name) (hx20 hl12).2 rfl Try.isAgg9 rfl rfl) ?_
      refine va rfl rfl rfl (q_move (v := .string name) rfl (by kernel_rfl)) ?_
      refine va rfl rfl rfl (q_sneq rfl rfl rfl) ?_
      refine WR.nil ?_
      change WC _ _ _ _ _ _
      refine WC.cif h (by kernel_rfl) (fun hb21 h => ?_) (fun hb21 h => ?_)
      · skip
        refine WC.region ?_
        refine va rfl rfl rfl (q_move (v := .slice A2 out_1.length c3) rfl (by kernel_rfl)) ?_
        refine va rfl rfl rfl (q_move (v := .slice Al l.length cl) rfl (by kernel_rfl)) ?_
        refine va rfl rfl rfl (q_move (v := .int .i64 ((i7 : Nat) : Int)) rfl (by kernel_rfl)) ?_
        refine va rfl rfl rfl (q_ixn (i := i7) Try.underlying44 Try.sizeOf80 rfl rfl rfl hl12 (hl.some_ hl12)) ?_
        refine va rfl rfl rfl (q_lda (c := 0) (vs := [.string (gt l i7).name, .slice A18 ((gt l i7).data).length c19]) (hx20 hl12).2 rfl Try.isAgg80 Try.sizeOf80 rfl rfl rfl) ?_
        refine e_buildSlice (cs := #[.string (gt l i7).name, .slice A18 ((gt l i7).data).length c19]) (e := 80) rfl rfl rfl rfl (fun w => by kernel_rfl) ?_
        intro g22
        obtain ⟨hk23, h⟩ := chk_some h
        refine e_append (T := dfirthref07_FileT) (xs := out_1) (ys := [(gt l i7)]) elem_44 (i := 1) rfl rfl rfl rfl rfl rfl rfl ho5 (of_decide_eq_true hk23) (fun w hw => src_one (T := dfirthref07_FileT) (y := (gt l i7)) (i := 0) rfl (by exact ⟨A18, c19, rfl, (hx20 hl12).1⟩) hw) ?_
        intro row24 A25 c26 ho27
        refine va rfl rfl rfl (q_assign (v := .slice A25 (out_1 ++ [(gt l i7)]).length c26) rfl (by kernel_rfl)) ?_
        refine WR.nil ?_
        intro w hw
        exact ⟨(out_1 ++ [(gt l i7)]), A25, c26, row24, h, (sl_ (by kernel_rfl)), (hw.only (is := [1]) rfl), ho27, trivial⟩
      · skip
        refine WC.skip ?_
        intro w hw
        exact ⟨out_1, A2, c3, row4, h, (sl_ (by kernel_rfl)), hw, ho5, trivial⟩
    · skip
      rintro σ w ⟨out_13, A14, c15, row16, h, hsl, hw, ho17, -⟩
      refine Wpt.slots hsl ?_
      refine WC.here (C := CC F Γ [row16]) ?_ hw
      clear hw hsl
      refine WC.region ?_
      refine va rfl rfl rfl (q_move (v := .int .i64 ((i7 : Nat) : Int)) rfl (by kernel_rfl)) ?_
      refine va rfl rfl rfl (q_add_r (r := ((i7 + 1 : Nat) : Int)) rfl rfl rfl (ctr_len hl12 hl.le)) ?_
      refine va rfl rfl rfl (q_assign (v := .int .i64 ((i7 + 1 : Nat) : Int)) rfl (by kernel_rfl)) ?_
      refine WR.nil ?_
      intro w hw
      exact ⟨hl12, out_13, h, A14, c15, row16, (sl_ (by kernel_rfl)), hw, ho17, trivial⟩
  · skip
    have h := hge10 (ige hb11)
    refine WC.exit ?_
    change WC _ _ _ _ _ _
    refine WC.rs ?_
    refine va rfl rfl rfl (q_move (v := .slice A2 out_1.length c3) rfl (by kernel_rfl)) ?_
    refine va rfl rfl rfl (q_assign (v := .slice A2 out_1.length c3) rfl (by kernel_rfl)) ?_
    refine WR.nil ?_
    change WC _ _ _ _ _ _
    refine WC.ret ?_
    intro w hw
    obtain rfl := Option.some.inj h
    subst hF
    exact end_e (is := [0]) (by kernel_rfl) hw rfl ⟨A2, c3, row4, rfl, rfl, ho5, trivial⟩
abbrev r_firthref07_with (r : List Dfirthref07_File) (U : List Rowb) (Γ : Gh) (v : Value) : Prop := ∃ (A0 : Option Addr), ∃ (c0 : Nat), ∃ (row0 : Rowb), v = .slice A0 r.length c0 ∧ U = [row0] ∧ Own dfirthref07_FileT Γ 80 row0 A0 c0 r ∧ True
set_option maxRecDepth 100000 in
set_option maxHeartbeats 400000 in
theorem t_firthref07_with {Γ : Gh} {w0 : World} {Al : Option Addr} {cl : Nat} {l : List Dfirthref07_File} (hl : Sl dfirthref07_FileT Γ Al l) (hlc : l.length ≤ cl) (name : ByteArray) (hname : name.size ≤ lim) {Ab : Option Addr} {cb : Nat} {b : List UInt8} (hb : Sl byteT Γ Ab b) (hbc : b.length ≤ cb) (hp : Pre [] Γ w0) {r : List Dfirthref07_File} (h : m_firthref07_with l name b = some r) : Calls Try.prog 55 #[.slice Al l.length cl, .string name, .slice Ab b.length cb] w0 (Outc Γ [] w0 (r_firthref07_with r)) := by
  refine calls_of (N := 52) (rs := [6]) (args := [.slice Al l.length cl, .string name, .slice Ab b.length cb]) Try.func55 rfl Try.ntmps55 Try.results55 rfl ?_
  obtain ⟨F, hF⟩ : ∃ F : Fm, F = ⟨ids [], w0, Γ⟩ := ⟨_, rfl⟩
  refine WC.here (C := CC F Γ []) ?_ (hF ▸ hp.start)
  refine WC.rs ?_
  refine va rfl rfl rfl (q_assign (v := .slice none 0 0) rfl (by kernel_rfl)) ?_
  refine WR.nil ?_
  change WC _ _ _ _ _ _
  refine WC.rs ?_
  refine va rfl rfl rfl (q_move (v := .slice Al l.length cl) rfl (by kernel_rfl)) ?_
  refine va rfl rfl rfl (q_move (v := .string name) rfl (by kernel_rfl)) ?_
  obtain ⟨z1, hz2, h⟩ := bnd h
  refine e_call (is := []) rfl rfl (call_run Try.call56 rfl rfl (by kernel_rfl)) rfl (fun w hp => t_firthref07_without hl hlc name hname hp hz2) ?_
  rintro Γ3 U5 v6 hl4 ⟨A7, c8, row9, rfl, rfl, hr10, _⟩
  change WR _ _ _ (CC F Γ3 [row9]) _ _ (upd _ 12 (.slice A7 z1.length c8))
  refine va rfl rfl rfl (q_assign (v := .slice A7 z1.length c8) rfl (by kernel_rfl)) ?_
  refine WR.nil ?_
  change WC _ _ _ _ _ _
  refine WC.rs ?_
  refine va rfl rfl rfl (q_assign (v := .slice none 0 0) rfl (by kernel_rfl)) ?_
  refine WR.nil ?_
  change WC _ _ _ _ _ _
  refine WC.rs ?_
  refine va rfl rfl rfl (q_assign (v := .bool false) rfl (by kernel_rfl)) ?_
  refine WR.nil ?_
  change WC _ _ _ _ _ _
  refine WC.seq ?_
  refine WC.rs ?_
  refine va rfl rfl rfl (q_assign (v := .int .i64 0) rfl (by kernel_rfl)) ?_
  refine WR.nil ?_
  change WC _ _ _ _ _ _
  refine WC.block ?_
  refine WC.forI h (fun (i18 : Nat) (s : (List Dfirthref07_File) × Bool) σ w => match s with | (out_11, laid_16) => ∃ (A12 : Option Addr), ∃ (c13 : Nat), ∃ (row14 : Rowb), slots σ [(0, .slice A7 z1.length c8), (1, .string name), (2, .slice Ab b.length cb), (7, .slice A12 out_11.length c13), (8, .bool laid_16), (9, .int .i64 ((i18 : Nat) : Int))] ∧ CC F Γ3 [row14, row9] w ∧ Own dfirthref07_FileT Γ3 80 row14 A12 c13 out_11 ∧ True) ?_ ?_
  · skip
    intro w hw
    have hw := hw.pad
    exact ⟨none, 0, [], (sl_ (by kernel_rfl)), hw, (Own.nil dfirthref07_FileT _ 80), trivial⟩
  rintro f17 i18 ⟨out_11, laid_16⟩ σ w hi19 hlt20 hge21 ⟨A12, c13, row14, hsl, hw, ho15, -⟩
  refine Wpt.slots hsl ?_
  refine WC.here (C := CC F Γ3 [row14, row9]) ?_ hw
  clear hw hsl
  refine WC.seq ?_
  refine WC.rs ?_
  refine va rfl rfl rfl (q_move (v := .int .i64 ((i18 : Nat) : Int)) rfl (by kernel_rfl)) ?_
  refine va rfl rfl rfl (q_move (v := .slice A7 z1.length c8) rfl (by kernel_rfl)) ?_
  refine va rfl rfl rfl (q_len_slice rfl Try.underlying44 rfl) ?_
  refine va rfl rfl rfl (q_lss rfl rfl rfl) ?_
  refine WR.nil ?_
  change WC _ _ _ _ _ _
  refine WC.cond (b := (decide (((i18 : Nat) : Int) < ((z1.length : Nat) : Int)))) (by kernel_rfl) (fun hb22 => ?_) (fun hb22 => ?_)
  · skip
    have hl23 := ilt hb22
    have h := hlt20 hl23
    refine WC.skip ?_
    change WC _ _ _ _ _ _
    refine WC.seq ?_
    refine WC.block ?_
    refine WC.cut (fun σ w => ∃ (out_24 : List Dfirthref07_File), ∃ (laid_29 : Bool), ∃ (A25 : Option Addr), ∃ (c26 : Nat), ∃ (row27 : Rowb), m_firthref07_with_j5 z1 f17 i18 out_24 laid_29 = some r ∧ slots σ [(0, .slice A7 z1.length c8), (1, .string name), (2, .slice Ab b.length cb), (7, .slice A25 out_24.length c26), (8, .bool laid_29), (9, .int .i64 ((i18 : Nat) : Int))] ∧ CC F Γ3 [row27, row9] w ∧ Own dfirthref07_FileT Γ3 80 row27 A25 c26 out_24 ∧ True) ?_ ?_
    · skip
      refine WC.rs ?_
      refine va rfl rfl rfl (q_move (v := .bool laid_16) rfl (by kernel_rfl)) ?_
      refine va rfl rfl rfl (q_not rfl rfl) ?_
      refine va rfl rfl rfl (q_move (v := .bool (!laid_16)) rfl (by kernel_rfl)) ?_
      refine vg1 rfl rfl rfl rfl rfl (fun hg30 => QV.qo (q_move (v := .string name) rfl (by kernel_rfl))) ?_
      refine vg1 rfl rfl rfl rfl rfl (fun hg31 => QV.qo (q_move (v := .slice A7 z1.length c8) rfl (by kernel_rfl))) ?_
      refine vg1 rfl rfl rfl rfl rfl (fun hg32 => QV.qo (q_move (v := .int .i64 ((i18 : Nat) : Int)) rfl (by kernel_rfl))) ?_
      refine vg1 rfl rfl rfl rfl rfl (fun hg33 => QV.qo (q_ixn (i := i18) Try.underlying44 Try.sizeOf80 rfl (gu hg33 rfl) (gu hg33 rfl) hl23 (hr10.some_ hl23))) ?_
      refine vg1 rfl rfl rfl rfl rfl (fun hg34 => QV.qo (q_field_addr (i18 * 2) fld_80_0 rfl (gu hg34 rfl) (hr10.some_ hl23) rfl)) ?_
      obtain ⟨A36, c37, hx38⟩ := hr10.dfirthref07_FileT_at i18
      refine vg1 rfl rfl rfl rfl rfl (fun hg35 => QV.qo (q_ldo (c := 0) (v := .string (gt z1 i18).name) (i := 1) rfl (hx38 hl23).2 rfl Try.isAgg9 (gu hg35 rfl) rfl)) ?_
      refine vg1 rfl rfl rfl rfl rfl (fun hg39 => QV.qo (q_slss rfl (gu hg39 rfl) (gu hg39 rfl))) ?_
      refine va rfl rfl rfl (q_pick rfl rfl (pk_and' (g := (!laid_16)) (y := (strLt name ((gt z1 i18).name))))) ?_
      refine WR.nil ?_
      change WC _ _ _ _ _ _
      refine WC.cif h (by kernel_rfl) (fun hb40 h => ?_) (fun hb40 h => ?_)
      · skip
        refine WC.rs ?_
        refine va rfl rfl rfl (q_move (v := .slice A12 out_11.length c13) rfl (by kernel_rfl)) ?_
        refine va rfl rfl rfl (q_move (v := .string name) rfl (by kernel_rfl)) ?_
        refine va rfl rfl rfl (q_move (v := .slice Ab b.length cb) rfl (by kernel_rfl)) ?_
        refine va rfl rfl rfl (q_build' (v := .agg #[.string name, .slice Ab b.length cb]) rfl (bargs2 rfl rfl) (fun w => by kernel_rfl)) ?_
        refine e_buildSlice (cs := #[.string name, .slice Ab b.length cb]) (e := 80) rfl rfl rfl rfl (fun w => by kernel_rfl) ?_
        intro g41
        obtain ⟨hk42, h⟩ := chk_some h
        refine e_append (T := dfirthref07_FileT) (xs := out_11) (ys := [(⟨name, b⟩ : Dfirthref07_File)]) elem_44 (i := 1) rfl rfl rfl rfl rfl rfl rfl ho15 (of_decide_eq_true hk42) (fun w hw => src_one (T := dfirthref07_FileT) (y := (⟨name, b⟩ : Dfirthref07_File)) (i := 0) rfl (by exact ⟨Ab, cb, rfl, ⟨hname, ⟨hbc, (hb.mono hl4)⟩⟩⟩) hw) ?_
        intro row43 A44 c45 ho46
        refine va rfl rfl rfl (q_assign (v := .slice A44 (out_11 ++ [(⟨name, b⟩ : Dfirthref07_File)]).length c45) rfl (by kernel_rfl)) ?_
        refine WR.nil ?_
        change WC _ _ _ _ _ _
        refine WC.region ?_
        refine va rfl rfl rfl (q_assign (v := .bool true) rfl (by kernel_rfl)) ?_
        refine WR.nil ?_
        intro w hw
        exact ⟨(out_11 ++ [(⟨name, b⟩ : Dfirthref07_File)]), true, A44, c45, row43, h, (sl_ (by kernel_rfl)), (hw.only (is := [1, 1]) rfl), ho46, trivial⟩
      · skip
        refine WC.skip ?_
        intro w hw
        exact ⟨out_11, laid_16, A12, c13, row14, h, (sl_ (by kernel_rfl)), hw, ho15, trivial⟩
    · skip
      rintro σ w ⟨out_24, laid_29, A25, c26, row27, h, hsl, hw, ho28, -⟩
      refine Wpt.slots hsl ?_
      refine WC.here (C := CC F Γ3 [row27, row9]) ?_ hw
      clear hw hsl
      refine WC.region ?_
      refine va rfl rfl rfl (q_move (v := .slice A25 out_24.length c26) rfl (by kernel_rfl)) ?_
      refine va rfl rfl rfl (q_move (v := .slice A7 z1.length c8) rfl (by kernel_rfl)) ?_
      refine va rfl rfl rfl (q_move (v := .int .i64 ((i18 : Nat) : Int)) rfl (by kernel_rfl)) ?_
      refine va rfl rfl rfl (q_ixn (i := i18) Try.underlying44 Try.sizeOf80 rfl rfl rfl hl23 (hr10.some_ hl23)) ?_
      obtain ⟨A47, c48, hx49⟩ := hr10.dfirthref07_FileT_at i18
      refine va rfl rfl rfl (q_ldoa (c := 0) (vs := [.string (gt z1 i18).name, .slice A47 ((gt z1 i18).data).length c48]) (i := 1) rfl (hx49 hl23).2 rfl Try.isAgg80 Try.sizeOf80 rfl rfl) ?_
      refine e_buildSlice (cs := #[.string (gt z1 i18).name, .slice A47 ((gt z1 i18).data).length c48]) (e := 80) rfl rfl rfl rfl (fun w => by kernel_rfl) ?_
      intro g50
      obtain ⟨hk51, h⟩ := chk_some h
      refine e_append (T := dfirthref07_FileT) (xs := out_24) (ys := [(gt z1 i18)]) elem_44 (i := 1) rfl rfl rfl rfl rfl rfl rfl ho28 (of_decide_eq_true hk51) (fun w hw => src_one (T := dfirthref07_FileT) (y := (gt z1 i18)) (i := 0) rfl (by exact ⟨A47, c48, rfl, (hx49 hl23).1⟩) hw) ?_
      intro row52 A53 c54 ho55
      refine va rfl rfl rfl (q_assign (v := .slice A53 (out_24 ++ [(gt z1 i18)]).length c54) rfl (by kernel_rfl)) ?_
      refine WR.nil ?_
      change WC _ _ _ _ _ _
      refine WC.region ?_
      refine va rfl rfl rfl (q_move (v := .int .i64 ((i18 : Nat) : Int)) rfl (by kernel_rfl)) ?_
      refine va rfl rfl rfl (q_add_r (r := ((i18 + 1 : Nat) : Int)) rfl rfl rfl (ctr_len hl23 hr10.le)) ?_
      refine va rfl rfl rfl (q_assign (v := .int .i64 ((i18 + 1 : Nat) : Int)) rfl (by kernel_rfl)) ?_
      refine WR.nil ?_
      intro w hw
      exact ⟨hl23, ((out_24 ++ [(gt z1 i18)]), laid_29), h, A53, c54, row52, (sl_ (by kernel_rfl)), (hw.only (is := [1, 1]) rfl), ho55, trivial⟩
  · skip
    have h := hge21 (ige hb22)
    refine WC.exit ?_
    change WC _ _ _ _ _ _
    refine WC.seq ?_
    refine WC.rs ?_
    refine va rfl rfl rfl (q_move (v := .bool laid_16) rfl (by kernel_rfl)) ?_
    refine va rfl rfl rfl (q_not rfl rfl) ?_
    refine WR.nil ?_
    change WC _ _ _ _ _ _
    refine WC.cif h (by kernel_rfl) (fun hb56 h => ?_) (fun hb56 h => ?_)
    · skip
      refine WC.region ?_
      refine va rfl rfl rfl (q_move (v := .slice A12 out_11.length c13) rfl (by kernel_rfl)) ?_
      refine va rfl rfl rfl (q_move (v := .string name) rfl (by kernel_rfl)) ?_
      refine va rfl rfl rfl (q_move (v := .slice Ab b.length cb) rfl (by kernel_rfl)) ?_
      refine va rfl rfl rfl (q_build' (v := .agg #[.string name, .slice Ab b.length cb]) rfl (bargs2 rfl rfl) (fun w => by kernel_rfl)) ?_
      refine e_buildSlice (cs := #[.string name, .slice Ab b.length cb]) (e := 80) rfl rfl rfl rfl (fun w => by kernel_rfl) ?_
      intro g57
      obtain ⟨hk58, h⟩ := chk_some h
      refine e_append (T := dfirthref07_FileT) (xs := out_11) (ys := [(⟨name, b⟩ : Dfirthref07_File)]) elem_44 (i := 1) rfl rfl rfl rfl rfl rfl rfl ho15 (of_decide_eq_true hk58) (fun w hw => src_one (T := dfirthref07_FileT) (y := (⟨name, b⟩ : Dfirthref07_File)) (i := 0) rfl (by exact ⟨Ab, cb, rfl, ⟨hname, ⟨hbc, (hb.mono hl4)⟩⟩⟩) hw) ?_
      intro row59 A60 c61 ho62
      refine va rfl rfl rfl (q_assign (v := .slice A60 (out_11 ++ [(⟨name, b⟩ : Dfirthref07_File)]).length c61) rfl (by kernel_rfl)) ?_
      refine WR.nil ?_
      change WC _ _ _ _ _ _
      refine WC.rs ?_
      refine va rfl rfl rfl (q_move (v := .slice A60 (out_11 ++ [(⟨name, b⟩ : Dfirthref07_File)]).length c61) rfl (by kernel_rfl)) ?_
      refine va rfl rfl rfl (q_assign (v := .slice A60 (out_11 ++ [(⟨name, b⟩ : Dfirthref07_File)]).length c61) rfl (by kernel_rfl)) ?_
      refine WR.nil ?_
      change WC _ _ _ _ _ _
      refine WC.ret ?_
      intro w hw
      obtain rfl := Option.some.inj h
      subst hF
      exact end_e (is := [1]) (by kernel_rfl) hw rfl ⟨A60, c61, row59, rfl, rfl, ho62, trivial⟩
    · skip
      refine WC.skip ?_
      change WC _ _ _ _ _ _
      refine WC.rs ?_
      refine va rfl rfl rfl (q_move (v := .slice A12 out_11.length c13) rfl (by kernel_rfl)) ?_
      refine va rfl rfl rfl (q_assign (v := .slice A12 out_11.length c13) rfl (by kernel_rfl)) ?_
      refine WR.nil ?_
      change WC _ _ _ _ _ _
      refine WC.ret ?_
      intro w hw
      obtain rfl := Option.some.inj h
      subst hF
      exact end_e (is := [0]) (by kernel_rfl) hw rfl ⟨A12, c13, row14, rfl, rfl, ho15, trivial⟩
abbrev r_firthref07_did (r : List Dfirthref07_File) (U : List Rowb) (Γ : Gh) (v : Value) : Prop := ∃ (A0 : Option Addr), ∃ (c0 : Nat), ∃ (row0 : Rowb), v = .slice A0 r.length c0 ∧ U = [row0] ∧ Own dfirthref07_FileT Γ 80 row0 A0 c0 r ∧ True
set_option maxRecDepth 100000 in
set_option maxHeartbeats 400000 in
theorem t_firthref07_did {Γ : Gh} {w0 : World} {Al : Option Addr} {cl : Nat} {l : List Dfirthref07_File} (hl : Sl dfirthref07_FileT Γ Al l) (hlc : l.length ≤ cl) {Ac_3 : Option Addr} {cc_3 : Nat} (c_ : Dfirthref07_Change) (hc_ : Dfirthref07_Change.fits Γ Ac_3 cc_3 c_) (hp : Pre [] Γ w0) {r : List Dfirthref07_File} (h : m_firthref07_did l c_ = some r) : Calls Try.prog 45 #[.slice Al l.length cl, .agg #[.int .i64 c_.kind, .string c_.name, .string c_.to_, .slice Ac_3 c_.data.length cc_3, .int .i64 c_.n]] w0 (Outc Γ [] w0 (r_firthref07_did r)) := by
  refine calls_of (N := 55) (rs := [4]) (args := [.slice Al l.length cl, .agg #[.int .i64 c_.kind, .string c_.name, .string c_.to_, .slice Ac_3 c_.data.length cc_3, .int .i64 c_.n]]) Try.func45 rfl Try.ntmps45 Try.results45 rfl ?_
  obtain ⟨F, hF⟩ : ∃ F : Fm, F = ⟨ids [], w0, Γ⟩ := ⟨_, rfl⟩
  refine WC.here (C := CC F Γ []) ?_ (hF ▸ hp.start)
  refine WC.rs ?_
  refine e_box (v := .agg #[.int .i64 c_.kind, .string c_.name, .string c_.to_, .slice Ac_3 c_.data.length cc_3, .int .i64 c_.n]) rfl rfl rfl rfl (by kernel_rfl) ?_
  intro g1
  refine va rfl rfl rfl (q_assign (v := .slice none 0 0) rfl (by kernel_rfl)) ?_
  refine WR.nil ?_
  change WC _ _ _ _ _ _
  refine WC.seq ?_
  refine WC.rs ?_
  refine va rfl rfl rfl (q_fl 0 fld_83_0 rfl rfl rfl) ?_
  refine va rfl rfl rfl (q_ldl (i := 0) (v := .int .i64 c_.kind) rfl rfl Try.isAgg3 rfl rfl) ?_
  refine WR.nil ?_
  change WC _ _ _ _ _ _
  refine WC.block ?_
  refine WC.rs ?_
  refine va rfl rfl rfl (q_eql rfl rfl rfl) ?_
  refine va rfl rfl rfl (q_assign (v := .bool (c_.kind == 1)) rfl (by kernel_rfl)) ?_
  refine WR.nil ?_
  change WC _ _ _ _ _ _
  refine WC.cif h (by kernel_rfl) (fun hb2 h => ?_) (fun hb2 h => ?_)
  · skip
    refine WC.rs ?_
    refine va rfl rfl rfl (q_move (v := .slice Al l.length cl) rfl (by kernel_rfl)) ?_
    refine va rfl rfl rfl (q_fl 1 fld_83_1 rfl rfl rfl) ?_
    refine va rfl rfl rfl (q_ldl (i := 0) (v := .string c_.name) rfl rfl Try.isAgg9 rfl rfl) ?_
    obtain ⟨z3, hz4, h⟩ := bnd h
    refine e_call (is := []) rfl rfl (call_run Try.call54 rfl rfl (by kernel_rfl)) rfl (fun w hp => t_firthref07_data hl hlc c_.name hc_.2.1 hp hz4) ?_
    rintro Γ5 U7 v8 hl6 ⟨A9, c10, row11, rfl, rfl, hr12, _⟩
    change WR _ _ _ (CC F Γ5 [row11, [(g1, .cells #[.int .i64 c_.kind, .string c_.name, .string c_.to_, .slice Ac_3 c_.data.length cc_3, .int .i64 c_.n] 83 (0, 0))]]) _ _ (upd _ 14 (.slice A9 z3.length c10))
    refine va rfl rfl rfl (q_assign (v := .slice A9 z3.length c10) rfl (by kernel_rfl)) ?_
    refine WR.nil ?_
    change WC _ _ _ _ _ _
    refine WC.rs ?_
    refine va rfl rfl rfl (q_move (v := .slice A9 z3.length c10) rfl (by kernel_rfl)) ?_
    refine va rfl rfl rfl (q_fl 3 fld_83_3 rfl rfl rfl) ?_
    refine va rfl rfl rfl (q_ldl (i := 1) (v := .slice Ac_3 c_.data.length cc_3) rfl rfl Try.isAgg22 rfl rfl) ?_
    obtain ⟨hk13, h⟩ := chk_some h
    refine e_append (T := byteT) (xs := z3) (ys := c_.data) elem_22 (i := 0) rfl rfl rfl rfl rfl rfl rfl hr12 (of_decide_eq_true hk13) (fun w hw => src_sl (hc_.2.2.2.1.2.mono hl6) hw) ?_
    intro row14 A15 c16 ho17
    refine va rfl rfl rfl (q_assign (v := .slice A15 (z3 ++ c_.data).length c16) rfl (by kernel_rfl)) ?_
    refine WR.nil ?_
    change WC _ _ _ _ _ _
    refine WC.rs ?_
    refine va rfl rfl rfl (q_move (v := .slice Al l.length cl) rfl (by kernel_rfl)) ?_
    refine va rfl rfl rfl (q_fl 1 fld_83_1 rfl rfl rfl) ?_
    refine va rfl rfl rfl (q_ldl (i := 1) (v := .string c_.name) rfl rfl Try.isAgg9 rfl rfl) ?_
    refine va rfl rfl rfl (q_move (v := .slice A15 (z3 ++ c_.data).length c16) rfl (by kernel_rfl)) ?_
    have hc22 := ho17.capz
    intro w hw; obtain ⟨Γ18, hw, hl19, hr20⟩ := hw.seal (i := 0) rfl; have hs21 := ho17.sl hl19 hr20
    refine WR.here (C := CC F Γ18 [[], [(g1, .cells #[.int .i64 c_.kind, .string c_.name, .string c_.to_, .slice Ac_3 c_.data.length cc_3, .int .i64 c_.n] 83 (0, 0))]]) ?_ hw
    clear hw
    obtain ⟨z23, hz24, h⟩ := bnd h
    refine e_call (is := []) rfl rfl (call_run Try.call55 rfl rfl (by kernel_rfl)) rfl (fun w hp => t_firthref07_with (hl.mono (hl6.trans hl19)) hlc c_.name hc_.2.1 hs21 hc22 hp hz24) ?_
    rintro Γ25 U27 v28 hl26 ⟨A29, c30, row31, rfl, rfl, hr32, _⟩
    change WR _ _ _ (CC F Γ25 [row31, [], [(g1, .cells #[.int .i64 c_.kind, .string c_.name, .string c_.to_, .slice Ac_3 c_.data.length cc_3, .int .i64 c_.n] 83 (0, 0))]]) _ _ (upd _ 23 (.slice A29 z23.length c30))
    refine va rfl rfl rfl (q_assign (v := .slice A29 z23.length c30) rfl (by kernel_rfl)) ?_
    refine WR.nil ?_
    change WC _ _ _ _ _ _
    refine WC.ret ?_
    intro w hw
    obtain rfl := Option.some.inj h
    subst hF
    exact end_e (is := [0]) (by kernel_rfl) hw rfl ⟨A29, c30, row31, rfl, rfl, hr32, trivial⟩
  · skip
    refine WC.rs ?_
    refine va rfl rfl rfl (q_eql rfl rfl rfl) ?_
    refine va rfl rfl rfl (q_assign (v := .bool (c_.kind == 2)) rfl (by kernel_rfl)) ?_
    refine WR.nil ?_
    change WC _ _ _ _ _ _
    refine WC.cif h (by kernel_rfl) (fun hb33 h => ?_) (fun hb33 h => ?_)
    · skip
      refine WC.seq ?_
      intro w hw; have h034 := hw.le
      refine WC.here (C := CC F Γ [[(g1, .cells #[.int .i64 c_.kind, .string c_.name, .string c_.to_, .slice Ac_3 c_.data.length cc_3, .int .i64 c_.n] 83 (0, 0))]]) ?_ hw; clear hw
      refine WC.held (CC F Γ [[(g1, .cells #[.int .i64 c_.kind, .string c_.name, .string c_.to_, .slice Ac_3 c_.data.length cc_3, .int .i64 c_.n] 83 (0, 0))]]) (by kernel_rfl) (fun w hw => hw.drawn _) ?_
      change WH _ _ _ _ (CC F Γ [[(g1, .cells #[.int .i64 c_.kind, .string c_.name, .string c_.to_, .slice Ac_3 c_.data.length cc_3, .int .i64 c_.n] 83 (0, 0))]]) _ 12 #[false, false, false, false, false, false, false, false, false, false, false, false] _
      refine ht (i := 0) rfl (by kernel_rfl) rfl rfl rfl (fun w hw => hw.back (Gh.refl _) h034 (.cons_cons _ .slnil)) (q_move (v := .slice Al l.length cl) rfl (by kernel_rfl)) ?_
      refine ht (i := 1) rfl (by kernel_rfl) rfl rfl rfl (fun w hw => hw.back (Gh.refl _) h034 (.cons_cons _ .slnil)) (q_fl 1 fld_83_1 rfl rfl rfl) ?_
      refine ht (i := 2) rfl (by kernel_rfl) rfl rfl rfl (fun w hw => hw.back (Gh.refl _) h034 (.cons_cons _ .slnil)) (q_ldl (i := 0) (v := .string c_.name) rfl rfl Try.isAgg9 rfl rfl) ?_
      refine ht (i := 3) rfl (by kernel_rfl) rfl rfl rfl (fun w hw => hw.back (Gh.refl _) h034 (.cons_cons _ .slnil)) (q_move (v := .slice Al l.length cl) rfl (by kernel_rfl)) ?_
      refine ht (i := 4) rfl (by kernel_rfl) rfl rfl rfl (fun w hw => hw.back (Gh.refl _) h034 (.cons_cons _ .slnil)) (q_fl 1 fld_83_1 rfl rfl rfl) ?_
      refine ht (i := 5) rfl (by kernel_rfl) rfl rfl rfl (fun w hw => hw.back (Gh.refl _) h034 (.cons_cons _ .slnil)) (q_ldl (i := 0) (v := .string c_.name) rfl rfl Try.isAgg9 rfl rfl) ?_
      refine ht (i := 7) rfl (by kernel_rfl) rfl rfl rfl (fun w hw => hw.back (Gh.refl _) h034 (.cons_cons _ .slnil)) (q_fl 4 fld_83_4 rfl rfl rfl) ?_
      refine ht (i := 8) rfl (by kernel_rfl) rfl rfl rfl (fun w hw => hw.back (Gh.refl _) h034 (.cons_cons _ .slnil)) (q_ldl (i := 0) (v := .int .i64 c_.n) rfl rfl Try.isAgg3 rfl rfl) ?_
      refine WH.lone (i := 6) (by kernel_rfl) rfl ?_
      obtain ⟨z35, hz36, h⟩ := bnd h
      refine e_call (is := []) rfl rfl (call_run Try.call54 rfl rfl (by kernel_rfl)) rfl (fun w hp => t_firthref07_data hl hlc c_.name hc_.2.1 hp hz36) ?_
      rintro Γ37 U39 v40 hl38 ⟨A41, c42, row43, rfl, rfl, hr44, _⟩
      change WR _ _ _ (CC F Γ37 [row43, [(g1, .cells #[.int .i64 c_.kind, .string c_.name, .string c_.to_, .slice Ac_3 c_.data.length cc_3, .int .i64 c_.n] 83 (0, 0))]]) _ _ (upd _ 32 (.slice A41 z35.length c42))
      refine WR.nil ?_
      refine WH.next (fun w hw => hw.back hl38 h034 (.cons _ (.cons_cons _ .slnil))) ?_
      refine WH.lone (i := 9) (by kernel_rfl) rfl ?_
      have hc49 := hr44.capz
      intro w hw; obtain ⟨Γ45, hw, hl46, hr47⟩ := hw.seal (i := 0) rfl; have hs48 := hr44.sl hl46 hr47
      refine WR.here (C := CC F Γ45 [[], [(g1, .cells #[.int .i64 c_.kind, .string c_.name, .string c_.to_, .slice Ac_3 c_.data.length cc_3, .int .i64 c_.n] 83 (0, 0))]]) ?_ hw
      clear hw
      obtain ⟨hk50, h⟩ := chk_some h
      refine va rfl rfl rfl (q_cut_to (c := c42) (hi := c_.n.toNat) (xs := z35) Try.underlying22 Try.sizeOf5 rfl rfl (inle_eq rfl hk50) (inle_le hk50) hc49) ?_
      refine WR.nil ?_
      refine WH.next (fun w hw => hw.back (hl38.trans hl46) h034 (.cons _ (.cons_cons _ .slnil))) ?_
      refine WH.lone (i := 10) (by kernel_rfl) rfl ?_
      obtain ⟨z51, hz52, h⟩ := bnd h
      refine e_call (is := []) rfl rfl (call_run Try.call55 rfl rfl (by kernel_rfl)) rfl (fun w hp => t_firthref07_with (hl.mono (hl38.trans hl46)) hlc c_.name hc_.2.1 (hs48.cut_to (hi := c_.n.toNat) (inle_le hk50)) (take_cap hc49 c_.n.toNat) hp hz52) ?_
      rintro Γ53 U55 v56 hl54 ⟨A57, c58, row59, rfl, rfl, hr60, _⟩
      change WR _ _ _ (CC F Γ53 [row59, [], [(g1, .cells #[.int .i64 c_.kind, .string c_.name, .string c_.to_, .slice Ac_3 c_.data.length cc_3, .int .i64 c_.n] 83 (0, 0))]]) _ _ (upd _ 36 (.slice A57 z51.length c58))
      refine WR.nil ?_
      refine WH.next (fun w hw => hw.back ((hl38.trans hl46).trans hl54) h034 (.cons _ (.cons _ (.cons_cons _ .slnil)))) ?_
      refine ht (i := 11) rfl (by kernel_rfl) rfl rfl rfl (fun w hw => hw.back ((hl38.trans hl46).trans hl54) h034 (.cons _ (.cons _ (.cons_cons _ .slnil)))) (q_assign (v := .slice A57 z51.length c58) rfl (by kernel_rfl)) ?_
      refine WH.done (by kernel_rfl) ?_
      change WC _ _ _ _ _ _
      refine WC.ret ?_
      intro w hw
      obtain rfl := Option.some.inj h
      subst hF
      exact end_e (is := [0]) (by kernel_rfl) hw rfl ⟨A57, c58, row59, rfl, rfl, hr60, trivial⟩
    · skip
      refine WC.rs ?_
      refine va rfl rfl rfl (q_eql rfl rfl rfl) ?_
      refine va rfl rfl rfl (q_assign (v := .bool (c_.kind == 3)) rfl (by kernel_rfl)) ?_
      refine WR.nil ?_
      change WC _ _ _ _ _ _
      refine WC.cif h (by kernel_rfl) (fun hb61 h => ?_) (fun hb61 h => ?_)
      · skip
        refine WC.rs ?_
        refine va rfl rfl rfl (q_move (v := .slice Al l.length cl) rfl (by kernel_rfl)) ?_
        refine va rfl rfl rfl (q_fl 1 fld_83_1 rfl rfl rfl) ?_
        refine va rfl rfl rfl (q_ldl (i := 0) (v := .string c_.name) rfl rfl Try.isAgg9 rfl rfl) ?_
        obtain ⟨z62, hz63, h⟩ := bnd h
        refine e_call (is := []) rfl rfl (call_run Try.call54 rfl rfl (by kernel_rfl)) rfl (fun w hp => t_firthref07_data hl hlc c_.name hc_.2.1 hp hz63) ?_
        rintro Γ64 U66 v67 hl65 ⟨A68, c69, row70, rfl, rfl, hr71, _⟩
        change WR _ _ _ (CC F Γ64 [row70, [(g1, .cells #[.int .i64 c_.kind, .string c_.name, .string c_.to_, .slice Ac_3 c_.data.length cc_3, .int .i64 c_.n] 83 (0, 0))]]) _ _ (upd _ 42 (.slice A68 z62.length c69))
        refine va rfl rfl rfl (q_assign (v := .slice A68 z62.length c69) rfl (by kernel_rfl)) ?_
        refine WR.nil ?_
        change WC _ _ _ _ _ _
        refine WC.seq ?_
        intro w hw; have h072 := hw.le
        refine WC.here (C := CC F Γ64 [row70, [(g1, .cells #[.int .i64 c_.kind, .string c_.name, .string c_.to_, .slice Ac_3 c_.data.length cc_3, .int .i64 c_.n] 83 (0, 0))]]) ?_ hw; clear hw
        refine WC.held (CC F Γ64 [[(g1, .cells #[.int .i64 c_.kind, .string c_.name, .string c_.to_, .slice Ac_3 c_.data.length cc_3, .int .i64 c_.n] 83 (0, 0))]]) (by kernel_rfl) (fun w hw => hw.drawn _) ?_
        change WH _ _ _ _ (CC F Γ64 [row70, [(g1, .cells #[.int .i64 c_.kind, .string c_.name, .string c_.to_, .slice Ac_3 c_.data.length cc_3, .int .i64 c_.n] 83 (0, 0))]]) _ 9 #[false, false, false, false, false, false, false, false, false] _
        refine ht (i := 0) rfl (by kernel_rfl) rfl rfl rfl (fun w hw => hw.back (Gh.refl _) h072 (.cons _ (.cons_cons _ .slnil))) (q_move (v := .slice Al l.length cl) rfl (by kernel_rfl)) ?_
        refine ht (i := 1) rfl (by kernel_rfl) rfl rfl rfl (fun w hw => hw.back (Gh.refl _) h072 (.cons _ (.cons_cons _ .slnil))) (q_fl 1 fld_83_1 rfl rfl rfl) ?_
        refine ht (i := 2) rfl (by kernel_rfl) rfl rfl rfl (fun w hw => hw.back (Gh.refl _) h072 (.cons _ (.cons_cons _ .slnil))) (q_ldl (i := 0) (v := .string c_.name) rfl rfl Try.isAgg9 rfl rfl) ?_
        refine ht (i := 4) rfl (by kernel_rfl) rfl rfl rfl (fun w hw => hw.back (Gh.refl _) h072 (.cons _ (.cons_cons _ .slnil))) (q_fl 2 fld_83_2 rfl rfl rfl) ?_
        refine ht (i := 5) rfl (by kernel_rfl) rfl rfl rfl (fun w hw => hw.back (Gh.refl _) h072 (.cons _ (.cons_cons _ .slnil))) (q_ldl (i := 0) (v := .string c_.to_) rfl rfl Try.isAgg9 rfl rfl) ?_
        refine ht (i := 6) rfl (by kernel_rfl) rfl rfl rfl (fun w hw => hw.back (Gh.refl _) h072 (.cons _ (.cons_cons _ .slnil))) (q_move (v := .slice A68 z62.length c69) rfl (by kernel_rfl)) ?_
        refine WH.lone (i := 3) (by kernel_rfl) rfl ?_
        obtain ⟨z73, hz74, h⟩ := bnd h
        refine e_call (is := []) rfl rfl (call_run Try.call56 rfl rfl (by kernel_rfl)) rfl (fun w hp => t_firthref07_without (hl.mono hl65) hlc c_.name hc_.2.1 hp hz74) ?_
        rintro Γ75 U77 v78 hl76 ⟨A79, c80, row81, rfl, rfl, hr82, _⟩
        change WR _ _ _ (CC F Γ75 [row81, row70, [(g1, .cells #[.int .i64 c_.kind, .string c_.name, .string c_.to_, .slice Ac_3 c_.data.length cc_3, .int .i64 c_.n] 83 (0, 0))]]) _ _ (upd _ 46 (.slice A79 z73.length c80))
        refine WR.nil ?_
        refine WH.next (fun w hw => hw.back hl76 h072 (.cons _ (.cons _ (.cons_cons _ .slnil)))) ?_
        refine WH.lone (i := 7) (by kernel_rfl) rfl ?_
        have hc87 := hr82.capz
        intro w hw; obtain ⟨Γ83, hw, hl84, hr85⟩ := hw.seal (i := 0) rfl; have hs86 := hr82.sl hl84 hr85
        refine WR.here (C := CC F Γ83 [[], row70, [(g1, .cells #[.int .i64 c_.kind, .string c_.name, .string c_.to_, .slice Ac_3 c_.data.length cc_3, .int .i64 c_.n] 83 (0, 0))]]) ?_ hw
        clear hw
        have hc92 := (hr71.mono (hl76.trans hl84)).capz
        intro w hw; obtain ⟨Γ88, hw, hl89, hr90⟩ := hw.seal (i := 1) rfl; have hs91 := (hr71.mono (hl76.trans hl84)).sl hl89 hr90
        refine WR.here (C := CC F Γ88 [[], [], [(g1, .cells #[.int .i64 c_.kind, .string c_.name, .string c_.to_, .slice Ac_3 c_.data.length cc_3, .int .i64 c_.n] 83 (0, 0))]]) ?_ hw
        clear hw
        obtain ⟨z93, hz94, h⟩ := bnd h
        refine e_call (is := []) rfl rfl (call_run Try.call55 rfl rfl (by kernel_rfl)) rfl (fun w hp => t_firthref07_with (hs86.mono hl89) hc87 c_.to_ hc_.2.2.1 hs91 hc92 hp hz94) ?_
        rintro Γ95 U97 v98 hl96 ⟨A99, c100, row101, rfl, rfl, hr102, _⟩
        change WR _ _ _ (CC F Γ95 [row101, [], [], [(g1, .cells #[.int .i64 c_.kind, .string c_.name, .string c_.to_, .slice Ac_3 c_.data.length cc_3, .int .i64 c_.n] 83 (0, 0))]]) _ _ (upd _ 50 (.slice A99 z93.length c100))
        refine WR.nil ?_
        refine WH.next (fun w hw => hw.back (((hl76.trans hl84).trans hl89).trans hl96) h072 (.cons _ (.cons _ (.cons _ (.cons_cons _ .slnil))))) ?_
        refine ht (i := 8) rfl (by kernel_rfl) rfl rfl rfl (fun w hw => hw.back (((hl76.trans hl84).trans hl89).trans hl96) h072 (.cons _ (.cons _ (.cons _ (.cons_cons _ .slnil))))) (q_assign (v := .slice A99 z93.length c100) rfl (by kernel_rfl)) ?_
        refine WH.done (by kernel_rfl) ?_
        change WC _ _ _ _ _ _
        refine WC.ret ?_
        intro w hw
        obtain rfl := Option.some.inj h
        subst hF
        exact end_e (is := [0]) (by kernel_rfl) hw rfl ⟨A99, c100, row101, rfl, rfl, hr102, trivial⟩
      · skip
        refine WC.skip ?_
        change WC _ _ _ _ _ _
        refine WC.rs ?_
        refine va rfl rfl rfl (q_move (v := .slice Al l.length cl) rfl (by kernel_rfl)) ?_
        refine va rfl rfl rfl (q_fl 1 fld_83_1 rfl rfl rfl) ?_
        refine va rfl rfl rfl (q_ldl (i := 0) (v := .string c_.name) rfl rfl Try.isAgg9 rfl rfl) ?_
        obtain ⟨z103, hz104, h⟩ := bnd h
        refine e_call (is := []) rfl rfl (call_run Try.call56 rfl rfl (by kernel_rfl)) rfl (fun w hp => t_firthref07_without hl hlc c_.name hc_.2.1 hp hz104) ?_
        rintro Γ105 U107 v108 hl106 ⟨A109, c110, row111, rfl, rfl, hr112, _⟩
        change WR _ _ _ (CC F Γ105 [row111, [(g1, .cells #[.int .i64 c_.kind, .string c_.name, .string c_.to_, .slice Ac_3 c_.data.length cc_3, .int .i64 c_.n] 83 (0, 0))]]) _ _ (upd _ 54 (.slice A109 z103.length c110))
        refine va rfl rfl rfl (q_assign (v := .slice A109 z103.length c110) rfl (by kernel_rfl)) ?_
        refine WR.nil ?_
        change WC _ _ _ _ _ _
        refine WC.ret ?_
        intro w hw
        obtain rfl := Option.some.inj h
        subst hF
        exact end_e (is := [0]) (by kernel_rfl) hw rfl ⟨A109, c110, row111, rfl, rfl, hr112, trivial⟩
abbrev r_firthref07_Disk_Files (gd ed : Nat) (rowd : Rowb) (r : List Dfirthref07_File) (U : List Rowb) (Γ : Gh) (v : Value) : Prop := ∃ (A0 : Option Addr), ∃ (c0 : Nat), v = .slice A0 r.length c0 ∧ U = [rowd] ∧ r.length ≤ c0 ∧ Sl dfirthref07_FileT Γ A0 r ∧ True
set_option maxRecDepth 100000 in
set_option maxHeartbeats 400000 in
theorem t_firthref07_Disk_Files {Γ : Gh} {w0 : World} {gd ed : Nat} {rowd : Rowb} {d : Ofirthref07_Disk} (hd : Ofirthref07_Disk.ob ed Γ gd rowd d) (hp : Pre [rowd] Γ w0) {r : List Dfirthref07_File} (h : m_firthref07_Disk_Files d = some r) : Calls Try.prog 24 #[.pointer (some ⟨gd, 0, none⟩)] w0 (Outc Γ [rowd] w0 (r_firthref07_Disk_Files gd ed rowd r)) := by
  refine calls_of (N := 28) (rs := [2]) (args := [.pointer (some ⟨gd, 0, none⟩)]) Try.func24 rfl Try.ntmps24 Try.results24 rfl ?_
  obtain ⟨F, hF⟩ : ∃ F : Fm, F = ⟨ids [rowd], w0, Γ⟩ := ⟨_, rfl⟩
  refine WC.here (C := CC F Γ [rowd]) ?_ (hF ▸ hp.start)
  refine WC.rs ?_
  refine va rfl rfl rfl (q_assign (v := .slice none 0 0) rfl (by kernel_rfl)) ?_
  refine WR.nil ?_
  change WC _ _ _ _ _ _
  refine WC.rs ?_
  refine va rfl rfl rfl (q_move (v := .pointer (some ⟨gd, 0, none⟩)) rfl (by kernel_rfl)) ?_
  refine va rfl rfl rfl (q_nil (A := some ⟨gd, 0, none⟩) rfl rfl rfl) ?_
  refine va rfl rfl rfl (q_fl 1 fld_47_1 rfl rfl rfl) ?_
  have hq := hd
  obtain ⟨A1_1, c1_1, A2_1, c2_1, r2_1, hrow_1, ho0_1, ho1_1, ho2_1, ho3_1, -⟩ := hq
  intro w hw; have hw := hw.unfold (i := 0) rfl hrow_1
  refine WR.here (C := CC F Γ [[(gd, .cells #[.int .i64 d.room, .slice A1_1 d.safe_.length c1_1, .slice A2_1 d.todo.length c2_1] ed (0, 0))], r2_1]) ?_ hw
  clear hw
  refine va rfl rfl rfl (q_ldl (i := 0) (v := .slice A1_1 d.safe_.length c1_1) rfl rfl Try.isAgg44 rfl rfl) ?_
  refine va rfl rfl rfl (q_assign (v := .slice A1_1 d.safe_.length c1_1) rfl (by kernel_rfl)) ?_
  refine WR.nil ?_
  change WC _ _ _ _ _ _
  refine WC.seq ?_
  refine WC.rs ?_
  refine va rfl rfl rfl (q_assign (v := .int .i64 0) rfl (by kernel_rfl)) ?_
  refine WR.nil ?_
  change WC _ _ _ _ _ _
  refine WC.block ?_
  intro w hw; have hw := hw.fold (is := [0, 0]) rfl hrow_1
  refine WC.here (C := CC F Γ [rowd]) ?_ hw
  clear hw
  refine WC.forI h (fun (i11 : Nat) (l_5 : List Dfirthref07_File) σ w => ∃ (Γ3 : Gh), ∃ (A6 : Option Addr), ∃ (c7 : Nat), slots σ [(0, .pointer (some ⟨gd, 0, none⟩)), (3, .slice A6 l_5.length c7), (4, .int .i64 ((i11 : Nat) : Int))] ∧ CC F Γ3 [rowd] w ∧ Gh.le Γ Γ3 ∧ l_5.length ≤ c7 ∧ Sl dfirthref07_FileT Γ3 A6 l_5 ∧ True) ?_ ?_
  · skip
    intro w hw
    exact ⟨Γ, A1_1, c1_1, (sl_ (by kernel_rfl)), hw, (Gh.refl _), ho1_1, ho2_1, trivial⟩
  rintro f10 i11 l_5 σ w hi12 hlt13 hge14 ⟨Γ3, A6, c7, hsl, hw, hl4, hc9, hs8, -⟩
  refine Wpt.slots hsl ?_
  refine WC.here (C := CC F Γ3 [rowd]) ?_ hw
  clear hw hsl
  refine WC.seq ?_
  refine WC.rs ?_
  refine va rfl rfl rfl (q_move (v := .int .i64 ((i11 : Nat) : Int)) rfl (by kernel_rfl)) ?_
  refine va rfl rfl rfl (q_move (v := .pointer (some ⟨gd, 0, none⟩)) rfl (by kernel_rfl)) ?_
  refine va rfl rfl rfl (q_nil (A := some ⟨gd, 0, none⟩) rfl rfl rfl) ?_
  refine va rfl rfl rfl (q_fl 2 fld_47_2 rfl rfl rfl) ?_
  have hq := (hd.mono hl4)
  obtain ⟨A1_15, c1_15, A2_15, c2_15, r2_15, hrow_15, ho0_15, ho1_15, ho2_15, ho3_15, -⟩ := hq
  intro w hw; have hw := hw.unfold (i := 0) rfl hrow_15
  refine WR.here (C := CC F Γ3 [[(gd, .cells #[.int .i64 d.room, .slice A1_15 d.safe_.length c1_15, .slice A2_15 d.todo.length c2_15] ed (0, 0))], r2_15]) ?_ hw
  clear hw
  refine va rfl rfl rfl (q_ldl (i := 0) (v := .slice A2_15 d.todo.length c2_15) rfl rfl Try.isAgg45 rfl rfl) ?_
  refine va rfl rfl rfl (q_len_slice rfl Try.underlying45 rfl) ?_
  refine va rfl rfl rfl (q_lss rfl rfl rfl) ?_
  refine WR.nil ?_
  change WC _ _ _ _ _ _
  refine WC.cond (b := (decide (((i11 : Nat) : Int) < ((d.todo.length : Nat) : Int)))) (by kernel_rfl) (fun hb16 => ?_) (fun hb16 => ?_)
  · skip
    have hl17 := ilt hb16
    have h := hlt13 hl17
    refine WC.skip ?_
    change WC _ _ _ _ _ _
    refine WC.seq ?_
    refine WC.block ?_
    refine WC.region ?_
    refine va rfl rfl rfl (q_move (v := .slice A6 l_5.length c7) rfl (by kernel_rfl)) ?_
    refine va rfl rfl rfl (q_move (v := .pointer (some ⟨gd, 0, none⟩)) rfl (by kernel_rfl)) ?_
    refine va rfl rfl rfl (q_nil (A := some ⟨gd, 0, none⟩) rfl rfl rfl) ?_
    refine va rfl rfl rfl (q_fl 2 fld_47_2 rfl rfl rfl) ?_
    refine va rfl rfl rfl (q_ldl (i := 0) (v := .slice A2_15 d.todo.length c2_15) rfl rfl Try.isAgg45 rfl rfl) ?_
    refine va rfl rfl rfl (q_move (v := .int .i64 ((i11 : Nat) : Int)) rfl (by kernel_rfl)) ?_
    refine va rfl rfl rfl (q_ixn (i := i11) Try.underlying45 Try.sizeOf83 rfl rfl rfl hl17 (ho3_15.some_ hl17)) ?_
    obtain ⟨A18, c19, hx20⟩ := ho3_15.dfirthref07_ChangeT_at i11
    refine va rfl rfl rfl (q_ldoa (c := 0) (vs := [.int .i64 (gt d.todo i11).kind, .string (gt d.todo i11).name, .string (gt d.todo i11).to_, .slice A18 ((gt d.todo i11).data).length c19, .int .i64 (gt d.todo i11).n]) (i := 1) rfl (hx20 hl17).2 rfl Try.isAgg83 Try.sizeOf83 rfl rfl) ?_
    obtain ⟨z21, hz22, h⟩ := bnd h
    refine e_call (is := []) rfl rfl (call_run Try.call45 rfl rfl (by kernel_rfl)) rfl (fun w hp => t_firthref07_did hs8 hc9 (gt d.todo i11) (hx20 hl17).1 hp hz22) ?_
    rintro Γ23 U25 v26 hl24 ⟨A27, c28, row29, rfl, rfl, hr30, _⟩
    change WR _ _ _ (CC F Γ23 [row29, [(gd, .cells #[.int .i64 d.room, .slice A1_15 d.safe_.length c1_15, .slice A2_15 d.todo.length c2_15] ed (0, 0))], r2_15]) _ _ (upd _ 26 (.slice A27 z21.length c28))
    refine va rfl rfl rfl (q_assign (v := .slice A27 z21.length c28) rfl (by kernel_rfl)) ?_
    refine WR.nil ?_
    change WC _ _ _ _ _ _
    refine WC.region ?_
    refine va rfl rfl rfl (q_move (v := .int .i64 ((i11 : Nat) : Int)) rfl (by kernel_rfl)) ?_
    refine va rfl rfl rfl (q_add_r (r := ((i11 + 1 : Nat) : Int)) rfl rfl rfl (ctr_len hl17 ho3_15.le)) ?_
    refine va rfl rfl rfl (q_assign (v := .int .i64 ((i11 + 1 : Nat) : Int)) rfl (by kernel_rfl)) ?_
    refine WR.nil ?_
    intro w hw
    have hw := hw.fold (is := [1, 1]) rfl hrow_15
    have hc36 := hr30.capz
    obtain ⟨Γ32, hw, hl33, hr34⟩ := hw.seal (i := 1) rfl; have hs35 := hr30.sl hl33 hr34
    exact ⟨hl17, z21, h, Γ32, A27, c28, (sl_ (by kernel_rfl)), (hw.only (is := [0]) rfl), ((hl4.trans hl24).trans hl33), hc36, hs35, trivial⟩
  · skip
    have h := hge14 (ige hb16)
    refine WC.exit ?_
    change WC _ _ _ _ _ _
    refine WC.rs ?_
    refine va rfl rfl rfl (q_move (v := .slice A6 l_5.length c7) rfl (by kernel_rfl)) ?_
    refine va rfl rfl rfl (q_assign (v := .slice A6 l_5.length c7) rfl (by kernel_rfl)) ?_
    refine WR.nil ?_
    change WC _ _ _ _ _ _
    refine WC.ret ?_
    intro w hw
    have hw := hw.fold (is := [0, 0]) rfl hrow_15
    obtain rfl := Option.some.inj h
    subst hF
    exact end_e (is := [0]) (by kernel_rfl) hw rfl ⟨A6, c7, rfl, rfl, hc9, hs8, trivial⟩
abbrev r_firthref07_Disk_Used (gd ed : Nat) (rowd : Rowb) (r : Int) (U : List Rowb) (Γ : Gh) (v : Value) : Prop := v = .int .i64 r ∧ U = [rowd] ∧ I64 r ∧ True
set_option maxRecDepth 100000 in
set_option maxHeartbeats 400000 in
theorem t_firthref07_Disk_Used {Γ : Gh} {w0 : World} {gd ed : Nat} {rowd : Rowb} {d : Ofirthref07_Disk} (hd : Ofirthref07_Disk.ob ed Γ gd rowd d) (hp : Pre [rowd] Γ w0) {r : Int} (h : m_firthref07_Disk_Used d = some r) : Calls Try.prog 21 #[.pointer (some ⟨gd, 0, none⟩)] w0 (Outc Γ [rowd] w0 (r_firthref07_Disk_Used gd ed rowd r)) := by
  refine calls_of (N := 23) (rs := [2]) (args := [.pointer (some ⟨gd, 0, none⟩)]) Try.func21 rfl Try.ntmps21 Try.results21 rfl ?_
  obtain ⟨F, hF⟩ : ∃ F : Fm, F = ⟨ids [rowd], w0, Γ⟩ := ⟨_, rfl⟩
  refine WC.here (C := CC F Γ [rowd]) ?_ (hF ▸ hp.start)
  refine WC.rs ?_
  refine va rfl rfl rfl (q_assign (v := .int .i64 0) rfl (by kernel_rfl)) ?_
  refine WR.nil ?_
  change WC _ _ _ _ _ _
  refine WC.rs ?_
  refine va rfl rfl rfl (q_assign (v := .int .i64 0) rfl (by kernel_rfl)) ?_
  refine WR.nil ?_
  change WC _ _ _ _ _ _
  refine WC.rs ?_
  refine va rfl rfl rfl (q_move (v := .pointer (some ⟨gd, 0, none⟩)) rfl (by kernel_rfl)) ?_
  obtain ⟨z1, hz2, h⟩ := bnd h
  refine e_call (is := [0]) rfl rfl (call_run Try.call24 rfl rfl (by kernel_rfl)) rfl (fun w hp => t_firthref07_Disk_Files hd hp hz2) ?_
  rintro Γ3 U5 v6 hl4 ⟨A7, c8, rfl, rfl, hc10, hr9, _⟩
  change WR _ _ _ (CC F Γ3 [rowd]) _ _ (upd _ 7 (.slice A7 z1.length c8))
  refine va rfl rfl rfl (q_assign (v := .slice A7 z1.length c8) rfl (by kernel_rfl)) ?_
  refine WR.nil ?_
  change WC _ _ _ _ _ _
  refine WC.seq ?_
  refine WC.rs ?_
  refine va rfl rfl rfl (q_assign (v := .int .i64 0) rfl (by kernel_rfl)) ?_
  refine WR.nil ?_
  change WC _ _ _ _ _ _
  refine WC.block ?_
  refine WC.forI h (fun (i14 : Nat) (n_11 : Int) σ w => slots σ [(3, .int .i64 n_11), (4, .slice A7 z1.length c8), (5, .int .i64 ((i14 : Nat) : Int))] ∧ CC F Γ3 [rowd] w ∧ I64 n_11 ∧ True) ?_ ?_
  · skip
    intro w hw
    exact ⟨(sl_ (by kernel_rfl)), hw, (show I64 0 by decide), trivial⟩
  rintro f13 i14 n_11 σ w hi15 hlt16 hge17 ⟨hsl, hw, hr12, -⟩
  refine Wpt.slots hsl ?_
  refine WC.here (C := CC F Γ3 [rowd]) ?_ hw
  clear hw hsl
  refine WC.seq ?_
  refine WC.rs ?_
  refine va rfl rfl rfl (q_move (v := .int .i64 ((i14 : Nat) : Int)) rfl (by kernel_rfl)) ?_
  refine va rfl rfl rfl (q_move (v := .slice A7 z1.length c8) rfl (by kernel_rfl)) ?_
  refine va rfl rfl rfl (q_len_slice rfl Try.underlying44 rfl) ?_
  refine va rfl rfl rfl (q_lss rfl rfl rfl) ?_
  refine WR.nil ?_
  change WC _ _ _ _ _ _
  refine WC.cond (b := (decide (((i14 : Nat) : Int) < ((z1.length : Nat) : Int)))) (by kernel_rfl) (fun hb18 => ?_) (fun hb18 => ?_)
  · skip
    have hl19 := ilt hb18
    have h := hlt16 hl19
    refine WC.skip ?_
    change WC _ _ _ _ _ _
    refine WC.seq ?_
    refine WC.block ?_
    refine WC.region ?_
    refine va rfl rfl rfl (q_move (v := .int .i64 n_11) rfl (by kernel_rfl)) ?_
    refine va rfl rfl rfl (q_move (v := .slice A7 z1.length c8) rfl (by kernel_rfl)) ?_
    refine va rfl rfl rfl (q_move (v := .int .i64 ((i14 : Nat) : Int)) rfl (by kernel_rfl)) ?_
    refine va rfl rfl rfl (q_ixn (i := i14) Try.underlying44 Try.sizeOf80 rfl rfl rfl hl19 (hr9.some_ hl19)) ?_
    refine va rfl rfl rfl (q_field_addr (i14 * 2 + 1) fld_80_1 rfl rfl (hr9.some_ hl19) rfl) ?_
    obtain ⟨A20, c21, hx22⟩ := hr9.dfirthref07_FileT_at i14
    refine va rfl rfl rfl (q_ld (c := 1) (v := .slice A20 ((gt z1 i14).data).length c21) (hx22 hl19).2 rfl Try.isAgg22 rfl rfl) ?_
    refine va rfl rfl rfl (q_len_slice rfl Try.underlying22 rfl) ?_
    refine va rfl rfl rfl (q_add rfl rfl rfl) ?_
    refine va rfl rfl rfl (q_assign (v := .int .i64 (w64 (n_11 + ((((gt z1 i14).data).length : Nat) : Int)))) rfl (by kernel_rfl)) ?_
    refine WR.nil ?_
    change WC _ _ _ _ _ _
    refine WC.region ?_
    refine va rfl rfl rfl (q_move (v := .int .i64 ((i14 : Nat) : Int)) rfl (by kernel_rfl)) ?_
    refine va rfl rfl rfl (q_add_r (r := ((i14 + 1 : Nat) : Int)) rfl rfl rfl (ctr_len hl19 hr9.le)) ?_
    refine va rfl rfl rfl (q_assign (v := .int .i64 ((i14 + 1 : Nat) : Int)) rfl (by kernel_rfl)) ?_
    refine WR.nil ?_
    intro w hw
    exact ⟨hl19, (w64 (n_11 + ((((gt z1 i14).data).length : Nat) : Int))), h, (sl_ (by kernel_rfl)), hw, (w64_r _), trivial⟩
  · skip
    have h := hge17 (ige hb18)
    refine WC.exit ?_
    change WC _ _ _ _ _ _
    refine WC.rs ?_
    refine va rfl rfl rfl (q_move (v := .int .i64 n_11) rfl (by kernel_rfl)) ?_
    refine va rfl rfl rfl (q_assign (v := .int .i64 n_11) rfl (by kernel_rfl)) ?_
    refine WR.nil ?_
    change WC _ _ _ _ _ _
    refine WC.ret ?_
    intro w hw
    obtain rfl := Option.some.inj h
    subst hF
    exact end_e (is := [0]) (by kernel_rfl) hw rfl ⟨rfl, rfl, hr12, trivial⟩
abbrev r_firthref07_Disk_Do (gd ed : Nat) (r : Ofirthref07_Disk × Int) (U : List Rowb) (Γ : Gh) (v : Value) : Prop := ∃ (rowd' : Rowb), v = .int .i64 r.2 ∧ U = [rowd'] ∧ Ofirthref07_Disk.ob ed Γ gd rowd' r.1 ∧ I64 r.2 ∧ True
set_option maxRecDepth 100000 in
set_option maxHeartbeats 400000 in
theorem t_firthref07_Disk_Do {Γ : Gh} {w0 : World} {gd ed : Nat} {rowd : Rowb} {d : Ofirthref07_Disk} (hd : Ofirthref07_Disk.ob ed Γ gd rowd d) {Ac_3 : Option Addr} {cc_3 : Nat} (c_ : Dfirthref07_Change) (hc_ : Dfirthref07_Change.fits Γ Ac_3 cc_3 c_) (hp : Pre [rowd] Γ w0) {r : Ofirthref07_Disk × Int} (h : m_firthref07_Disk_Do d c_ = some r) : Calls Try.prog 52 #[.pointer (some ⟨gd, 0, none⟩), .agg #[.int .i64 c_.kind, .string c_.name, .string c_.to_, .slice Ac_3 c_.data.length cc_3, .int .i64 c_.n]] w0 (Outc Γ [rowd] w0 (r_firthref07_Disk_Do gd ed r)) := by
  refine calls_of (N := 79) (rs := [4]) (args := [.pointer (some ⟨gd, 0, none⟩), .agg #[.int .i64 c_.kind, .string c_.name, .string c_.to_, .slice Ac_3 c_.data.length cc_3, .int .i64 c_.n]]) Try.func52 rfl Try.ntmps52 Try.results52 rfl ?_
  obtain ⟨F, hF⟩ : ∃ F : Fm, F = ⟨ids [rowd], w0, Γ⟩ := ⟨_, rfl⟩
  refine WC.here (C := CC F Γ [rowd]) ?_ (hF ▸ hp.start)
  refine WC.rs ?_
  refine e_box (v := .agg #[.int .i64 c_.kind, .string c_.name, .string c_.to_, .slice Ac_3 c_.data.length cc_3, .int .i64 c_.n]) rfl rfl rfl rfl (by kernel_rfl) ?_
  intro g1
  refine va rfl rfl rfl (q_assign (v := .int .i64 0) rfl (by kernel_rfl)) ?_
  refine WR.nil ?_
  change WC _ _ _ _ _ _
  refine WC.seq ?_
  refine WC.rs ?_
  refine va rfl rfl rfl (q_fl 1 fld_83_1 rfl rfl rfl) ?_
  refine va rfl rfl rfl (q_ldl (i := 0) (v := .string c_.name) rfl rfl Try.isAgg9 rfl rfl) ?_
  obtain ⟨z2, hz3, h⟩ := bnd h
  refine vc rfl rfl rfl (q_call (call_run Try.call60 rfl rfl (by kernel_rfl)) (fun w hw => t_firthref07_wrong (Γ := Gh.all w) c_.name hc_.2.1 (Sat.all w) hz3)) ?_
  refine va rfl rfl rfl (q_move (v := .bool z2) rfl (by kernel_rfl)) ?_
  refine vg0 rfl rfl rfl rfl rfl (fun hg4 => QV.qo (q_fl 0 fld_83_0 rfl rfl rfl)) ?_
  refine vg0 rfl rfl rfl rfl rfl (fun hg5 => QV.qo (q_ldl (i := 0) (v := .int .i64 c_.kind) rfl rfl Try.isAgg3 (gu hg5 rfl) rfl)) ?_
  refine vg0 rfl rfl rfl rfl rfl (fun hg6 => QV.qo (q_eql rfl (gu hg6 rfl) rfl)) ?_
  refine vg0 rfl rfl rfl rfl rfl (fun hg7 => QV.qo (q_move (v := .bool (c_.kind == 3)) rfl (gu hg7 rfl))) ?_
  refine vh1 (c0 := (!z2)) (g := (c_.kind == 3)) rfl rfl rfl rfl rfl (fun hg8 => QV.qo (q_fl 2 fld_83_2 rfl rfl rfl)) ?_
  refine vh1 (c0 := (!z2)) (g := (c_.kind == 3)) rfl rfl rfl rfl rfl (fun hg9 => QV.qo (q_ldl (i := 0) (v := .string c_.to_) rfl rfl Try.isAgg9 (gu hg9 rfl) rfl)) ?_
  obtain ⟨z11, hz12, h⟩ := bnd h
  refine vh1 (c0 := (!z2)) (g := (c_.kind == 3)) rfl rfl rfl rfl rfl (fun hg10 => (q_call (call_run Try.call60 rfl rfl (args1 (gu hg10 rfl))) (fun w hw => t_firthref07_wrong (Γ := Gh.all w) c_.to_ hc_.2.2.1 (Sat.all w) (gc_of hz12 hg10)))) ?_
  refine vg0 rfl rfl rfl rfl rfl (fun hg13 => QV.qo (q_pick rfl (gu hg13 rfl) (pk_and (c := (!z2)) (g := (c_.kind == 3)) (y := z11) hg13))) ?_
  refine va rfl rfl rfl (q_pick rfl rfl (pk_or' (g := z2) (y := ((c_.kind == 3) && z11)))) ?_
  refine WR.nil ?_
  change WC _ _ _ _ _ _
  refine WC.cif h (by kernel_rfl) (fun hb14 h => ?_) (fun hb14 h => ?_)
  · skip
    refine WC.rs ?_
    refine va rfl rfl rfl (q_assign (v := .int .i64 70) rfl (by kernel_rfl)) ?_
    refine WR.nil ?_
    change WC _ _ _ _ _ _
    refine WC.ret ?_
    intro w hw
    obtain rfl := Option.some.inj h
    subst hF
    exact end_e (is := [1]) (by kernel_rfl) hw rfl ⟨rowd, rfl, rfl, hd, (show I64 70 by decide), trivial⟩
  · skip
    refine WC.skip ?_
    change WC _ _ _ _ _ _
    refine WC.rs ?_
    refine va rfl rfl rfl (q_move (v := .pointer (some ⟨gd, 0, none⟩)) rfl (by kernel_rfl)) ?_
    obtain ⟨z15, hz16, h⟩ := bnd h
    refine e_call (is := [1]) rfl rfl (call_run Try.call24 rfl rfl (by kernel_rfl)) rfl (fun w hp => t_firthref07_Disk_Files hd hp hz16) ?_
    rintro Γ17 U19 v20 hl18 ⟨A21, c22, rfl, rfl, hc24, hr23, _⟩
    change WR _ _ _ (CC F Γ17 [rowd, [(g1, .cells #[.int .i64 c_.kind, .string c_.name, .string c_.to_, .slice Ac_3 c_.data.length cc_3, .int .i64 c_.n] 83 (0, 0))]]) _ _ (upd _ 22 (.slice A21 z15.length c22))
    refine va rfl rfl rfl (q_assign (v := .slice A21 z15.length c22) rfl (by kernel_rfl)) ?_
    refine WR.nil ?_
    change WC _ _ _ _ _ _
    refine WC.rs ?_
    refine va rfl rfl rfl (q_move (v := .slice A21 z15.length c22) rfl (by kernel_rfl)) ?_
    refine va rfl rfl rfl (q_fl 1 fld_83_1 rfl rfl rfl) ?_
    refine va rfl rfl rfl (q_ldl (i := 1) (v := .string c_.name) rfl rfl Try.isAgg9 rfl rfl) ?_
    obtain ⟨z25, hz26, h⟩ := bnd h
    refine vc rfl rfl rfl (q_call (call_run Try.call61 rfl rfl (by kernel_rfl)) (fun w hw => t_firthref07_find (Γ := Gh.all w) (hr23.mono hw.sat.le_all) hc24 c_.name hc_.2.1 (Sat.all w) hz26)) ?_
    refine va rfl rfl rfl (q_assign (v := .int .i64 z25) rfl (by kernel_rfl)) ?_
    refine WR.nil ?_
    change WC _ _ _ _ _ _
    refine WC.cut (fun σ w => ∃ (Γ27 : Gh), m_firthref07_Disk_Do_j1 d c_  = some r ∧ slots σ [(0, .pointer (some ⟨gd, 0, none⟩)), (3, .pointer (some ⟨g1, 0, none⟩))] ∧ CC F Γ27 [rowd, [(g1, .cells #[.int .i64 c_.kind, .string c_.name, .string c_.to_, .slice Ac_3 c_.data.length cc_3, .int .i64 c_.n] 83 (0, 0))]] w ∧ Gh.le Γ17 Γ27 ∧ True) ?_ ?_
    · skip
      refine WC.block ?_
      refine WC.rs ?_
      refine va rfl rfl rfl (q_fl 0 fld_83_0 rfl rfl rfl) ?_
      refine va rfl rfl rfl (q_ldl (i := 1) (v := .int .i64 c_.kind) rfl rfl Try.isAgg3 rfl rfl) ?_
      refine va rfl rfl rfl (q_eql rfl rfl rfl) ?_
      refine va rfl rfl rfl (q_assign (v := .bool (c_.kind == 1)) rfl (by kernel_rfl)) ?_
      refine WR.nil ?_
      change WC _ _ _ _ _ _
      refine WC.cif h (by kernel_rfl) (fun hb29 h => ?_) (fun hb29 h => ?_)
      · skip
        refine WC.cut (fun σ w => ∃ (x_32 : Bool), ∃ (Γ30 : Gh), m_firthref07_Disk_Do_j3 d c_ x_32 = some r ∧ slots σ [(0, .pointer (some ⟨gd, 0, none⟩)), (3, .pointer (some ⟨g1, 0, none⟩)), (41, .bool x_32)] ∧ CC F Γ30 [rowd, [(g1, .cells #[.int .i64 c_.kind, .string c_.name, .string c_.to_, .slice Ac_3 c_.data.length cc_3, .int .i64 c_.n] 83 (0, 0))]] w ∧ Gh.le Γ17 Γ30 ∧ True) ?_ ?_
        · skip
          intro w hw; have h033 := hw.le
          refine WC.here (C := CC F Γ17 [rowd, [(g1, .cells #[.int .i64 c_.kind, .string c_.name, .string c_.to_, .slice Ac_3 c_.data.length cc_3, .int .i64 c_.n] 83 (0, 0))]]) ?_ hw; clear hw
          refine WC.held (CC F Γ17 [[(g1, .cells #[.int .i64 c_.kind, .string c_.name, .string c_.to_, .slice Ac_3 c_.data.length cc_3, .int .i64 c_.n] 83 (0, 0))]]) (by kernel_rfl) (fun w hw => hw.drawn _) ?_
          change WH _ _ _ _ (CC F Γ17 [rowd, [(g1, .cells #[.int .i64 c_.kind, .string c_.name, .string c_.to_, .slice Ac_3 c_.data.length cc_3, .int .i64 c_.n] 83 (0, 0))]]) _ 11 #[false, false, false, false, false, false, false, false, false, false, false] _
          refine ht (i := 0) rfl (by kernel_rfl) rfl rfl rfl (fun w hw => hw.back (Gh.refl _) h033 (.cons _ (.cons_cons _ .slnil))) (q_fl 3 fld_83_3 rfl rfl rfl) ?_
          refine ht (i := 1) rfl (by kernel_rfl) rfl rfl rfl (fun w hw => hw.back (Gh.refl _) h033 (.cons _ (.cons_cons _ .slnil))) (q_ldl (i := 0) (v := .slice Ac_3 c_.data.length cc_3) rfl rfl Try.isAgg22 rfl rfl) ?_
          refine ht (i := 2) rfl (by kernel_rfl) rfl rfl rfl (fun w hw => hw.back (Gh.refl _) h033 (.cons _ (.cons_cons _ .slnil))) (q_len_slice rfl Try.underlying22 rfl) ?_
          refine ht (i := 3) rfl (by kernel_rfl) rfl rfl rfl (fun w hw => hw.back (Gh.refl _) h033 (.cons _ (.cons_cons _ .slnil))) (q_move (v := .pointer (some ⟨gd, 0, none⟩)) rfl (by kernel_rfl)) ?_
          refine ht (i := 4) rfl (by kernel_rfl) rfl rfl rfl (fun w hw => hw.back (Gh.refl _) h033 (.cons _ (.cons_cons _ .slnil))) (q_nil (A := some ⟨gd, 0, none⟩) rfl rfl rfl) ?_
          refine ht (i := 5) rfl (by kernel_rfl) rfl rfl rfl (fun w hw => hw.back (Gh.refl _) h033 (.cons _ (.cons_cons _ .slnil))) (q_fl 0 fld_47_0 rfl rfl rfl) ?_
          refine ht (i := 7) rfl (by kernel_rfl) rfl rfl rfl (fun w hw => hw.back (Gh.refl _) h033 (.cons _ (.cons_cons _ .slnil))) (q_move (v := .pointer (some ⟨gd, 0, none⟩)) rfl (by kernel_rfl)) ?_
          obtain ⟨z34, hz35, h⟩ := bnd h
          refine WH.each (l := [6, 8]) (by kernel_rfl) (by simp) ?_
          intro i hi; simp only [List.mem_cons, List.not_mem_nil, or_false] at hi
          rcases hi with rfl | rfl
          · refine ⟨_, rfl, ?_⟩
            have hq := (hd.mono hl18)
            obtain ⟨A1_36, c1_36, A2_36, c2_36, r2_36, hrow_36, ho0_36, ho1_36, ho2_36, ho3_36, -⟩ := hq
            intro w hw; have hw := hw.unfold (i := 0) rfl hrow_36
            refine WR.here (C := CC F Γ17 [[(gd, .cells #[.int .i64 d.room, .slice A1_36 d.safe_.length c1_36, .slice A2_36 d.todo.length c2_36] ed (0, 0))], r2_36, [(g1, .cells #[.int .i64 c_.kind, .string c_.name, .string c_.to_, .slice Ac_3 c_.data.length cc_3, .int .i64 c_.n] 83 (0, 0))]]) ?_ hw
            clear hw
            refine va rfl rfl rfl (q_ldl (i := 0) (v := .int .i64 d.room) rfl rfl Try.isAgg3 rfl rfl) ?_
            refine WR.nil ?_
            refine WH.next (fun w hw => hw.back (Gh.refl _) h033 (.cons _ (.cons _ (.cons_cons _ .slnil)))) ?_
            refine WH.lone (i := 8) (by kernel_rfl) rfl ?_
            intro w hw; have hw := hw.fold (is := [0, 0]) rfl hrow_36
            refine WR.here (C := CC F Γ17 [rowd, [(g1, .cells #[.int .i64 c_.kind, .string c_.name, .string c_.to_, .slice Ac_3 c_.data.length cc_3, .int .i64 c_.n] 83 (0, 0))]]) ?_ hw
            clear hw
            refine e_call (is := [0]) rfl rfl (call_run Try.call21 rfl rfl (by kernel_rfl)) rfl (fun w hp => t_firthref07_Disk_Used (hd.mono hl18) hp hz35) ?_
            rintro Γ38 U40 v41 hl39 ⟨rfl, rfl, hr42, _⟩
            change WR _ _ _ (CC F Γ38 [rowd, [(g1, .cells #[.int .i64 c_.kind, .string c_.name, .string c_.to_, .slice Ac_3 c_.data.length cc_3, .int .i64 c_.n] 83 (0, 0))]]) _ _ (upd _ 39 (.int .i64 z34))
            refine WR.nil ?_
            refine WH.next (fun w hw => hw.back hl39 h033 (.cons _ (.cons_cons _ .slnil))) ?_
            refine ht (i := 9) rfl (by kernel_rfl) rfl rfl rfl (fun w hw => hw.back hl39 h033 (.cons _ (.cons_cons _ .slnil))) (q_sub rfl rfl rfl) ?_
            refine ht (i := 10) rfl (by kernel_rfl) rfl rfl rfl (fun w hw => hw.back hl39 h033 (.cons _ (.cons_cons _ .slnil))) (q_gtr rfl rfl rfl) ?_
            refine WH.done (by kernel_rfl) ?_
            intro w hw
            exact ⟨(decide ((w64 (d.room - z34)) < ((c_.data.length : Nat) : Int))), Γ38, h, (sl_ (by kernel_rfl)), hw, hl39, trivial⟩
          · refine ⟨_, rfl, ?_⟩
            refine e_call (is := [0]) rfl rfl (call_run Try.call21 rfl rfl (by kernel_rfl)) rfl (fun w hp => t_firthref07_Disk_Used (hd.mono hl18) hp hz35) ?_
            rintro Γ36 U38 v39 hl37 ⟨rfl, rfl, hr40, _⟩
            change WR _ _ _ (CC F Γ36 [rowd, [(g1, .cells #[.int .i64 c_.kind, .string c_.name, .string c_.to_, .slice Ac_3 c_.data.length cc_3, .int .i64 c_.n] 83 (0, 0))]]) _ _ (upd _ 39 (.int .i64 z34))
            refine WR.nil ?_
            refine WH.next (fun w hw => hw.back hl37 h033 (.cons _ (.cons_cons _ .slnil))) ?_
            refine WH.lone (i := 6) (by kernel_rfl) rfl ?_
            have hq := (hd.mono (hl18.trans hl37))
            obtain ⟨A1_41, c1_41, A2_41, c2_41, r2_41, hrow_41, ho0_41, ho1_41, ho2_41, ho3_41, -⟩ := hq
            intro w hw; have hw := hw.unfold (i := 0) rfl hrow_41
            refine WR.here (C := CC F Γ36 [[(gd, .cells #[.int .i64 d.room, .slice A1_41 d.safe_.length c1_41, .slice A2_41 d.todo.length c2_41] ed (0, 0))], r2_41, [(g1, .cells #[.int .i64 c_.kind, .string c_.name, .string c_.to_, .slice Ac_3 c_.data.length cc_3, .int .i64 c_.n] 83 (0, 0))]]) ?_ hw
            clear hw
            refine va rfl rfl rfl (q_ldl (i := 0) (v := .int .i64 d.room) rfl rfl Try.isAgg3 rfl rfl) ?_
            refine WR.nil ?_
            refine WH.next (fun w hw => hw.back hl37 h033 (.cons _ (.cons _ (.cons_cons _ .slnil)))) ?_
            refine ht (i := 9) rfl (by kernel_rfl) rfl rfl rfl (fun w hw => hw.back hl37 h033 (.cons _ (.cons _ (.cons_cons _ .slnil)))) (q_sub rfl rfl rfl) ?_
            refine ht (i := 10) rfl (by kernel_rfl) rfl rfl rfl (fun w hw => hw.back hl37 h033 (.cons _ (.cons _ (.cons_cons _ .slnil)))) (q_gtr rfl rfl rfl) ?_
            refine WH.done (by kernel_rfl) ?_
            intro w hw
            have hw := hw.fold (is := [0, 0]) rfl hrow_41
            exact ⟨(decide ((w64 (d.room - z34)) < ((c_.data.length : Nat) : Int))), Γ36, h, (sl_ (by kernel_rfl)), hw, hl37, trivial⟩
        · skip
          rintro σ w ⟨x_32, Γ30, h, hsl, hw, hl31, -⟩
          refine Wpt.slots hsl ?_
          refine WC.here (C := CC F Γ30 [rowd, [(g1, .cells #[.int .i64 c_.kind, .string c_.name, .string c_.to_, .slice Ac_3 c_.data.length cc_3, .int .i64 c_.n] 83 (0, 0))]]) ?_ hw
          clear hw hsl
          refine WC.cif h (by kernel_rfl) (fun hb43 h => ?_) (fun hb43 h => ?_)
          · skip
            refine WC.rs ?_
            refine va rfl rfl rfl (q_assign (v := .int .i64 72) rfl (by kernel_rfl)) ?_
            refine WR.nil ?_
            change WC _ _ _ _ _ _
            refine WC.ret ?_
            intro w hw
            obtain rfl := Option.some.inj h
            subst hF
            exact end_e (is := [0]) (by kernel_rfl) hw rfl ⟨rowd, rfl, rfl, (hd.mono (hl18.trans hl31)), (show I64 72 by decide), trivial⟩
          · skip
            refine WC.skip ?_
            intro w hw
            exact ⟨Γ30, h, (sl_ (by kernel_rfl)), hw, hl31, trivial⟩
      · skip
        refine WC.rs ?_
        refine va rfl rfl rfl (q_move (v := .int .i64 z25) rfl (by kernel_rfl)) ?_
        refine va rfl rfl rfl (q_lss rfl rfl rfl) ?_
        refine va rfl rfl rfl (q_assign (v := .bool (decide (z25 < 0))) rfl (by kernel_rfl)) ?_
        refine WR.nil ?_
        change WC _ _ _ _ _ _
        refine WC.cif h (by kernel_rfl) (fun hb44 h => ?_) (fun hb44 h => ?_)
        · skip
          refine WC.rs ?_
          refine va rfl rfl rfl (q_assign (v := .int .i64 71) rfl (by kernel_rfl)) ?_
          refine WR.nil ?_
          change WC _ _ _ _ _ _
          refine WC.ret ?_
          intro w hw
          obtain rfl := Option.some.inj h
          subst hF
          exact end_e (is := [0]) (by kernel_rfl) hw rfl ⟨rowd, rfl, rfl, (hd.mono hl18), (show I64 71 by decide), trivial⟩
        · skip
          refine WC.rs ?_
          refine va rfl rfl rfl (q_fl 0 fld_83_0 rfl rfl rfl) ?_
          refine va rfl rfl rfl (q_ldl (i := 1) (v := .int .i64 c_.kind) rfl rfl Try.isAgg3 rfl rfl) ?_
          refine va rfl rfl rfl (q_eql rfl rfl rfl) ?_
          refine va rfl rfl rfl (q_assign (v := .bool (c_.kind == 2)) rfl (by kernel_rfl)) ?_
          refine WR.nil ?_
          change WC _ _ _ _ _ _
          refine WC.cif h (by kernel_rfl) (fun hb45 h => ?_) (fun hb45 h => ?_)
          · skip
            refine WC.seq ?_
            refine WC.dr (by kernel_rfl) (by kernel_rfl) (fun w hw => hw.drawn _) ?_
            refine wa rfl rfl rfl (q_fl 4 fld_83_4 rfl rfl rfl) ?_
            refine wa rfl rfl rfl (q_ldl (i := 1) (v := .int .i64 c_.n) rfl rfl Try.isAgg3 rfl rfl) ?_
            refine wa rfl rfl rfl (q_lss rfl rfl rfl) ?_
            refine wa rfl rfl rfl (q_move (v := .bool (decide (c_.n < 0))) rfl (by kernel_rfl)) ?_
            refine wg0 rfl rfl rfl rfl rfl (fun hg46 => QV.qo (q_fl 4 fld_83_4 rfl rfl rfl)) ?_
            refine wg0 rfl rfl rfl rfl rfl (fun hg47 => QV.qo (q_ldl (i := 1) (v := .int .i64 c_.n) rfl rfl Try.isAgg3 (gu hg47 rfl) rfl)) ?_
            refine wg0 rfl rfl rfl rfl rfl (fun hg48 => QV.qo (q_move (v := .slice A21 z15.length c22) rfl (by kernel_rfl))) ?_
            refine wg0 rfl rfl rfl rfl rfl (fun hg49 => QV.qo (q_move (v := .int .i64 z25) rfl (by kernel_rfl))) ?_
            obtain ⟨hk51, h⟩ := chk_some h
            refine wg0 rfl rfl rfl rfl rfl (fun hg50 => QV.qo (q_ix Try.underlying44 Try.sizeOf80 rfl (gu hg50 rfl) (gu hg50 rfl) (imp_of hk51 hg50) (hr23.some_ (inb_lt (imp_of hk51 hg50))))) ?_
            refine wg0 rfl rfl rfl rfl rfl (fun hg52 => QV.qo (q_field_addr (z25.toNat * 2 + 1) fld_80_1 rfl (gu hg52 rfl) (hr23.some_ (inb_lt (imp_of hk51 hg52))) rfl)) ?_
            obtain ⟨A54, c55, hx56⟩ := hr23.dfirthref07_FileT_at z25.toNat
            refine wg0 rfl rfl rfl rfl rfl (fun hg53 => QV.qo (q_ld (c := 1) (v := .slice A54 ((gt z15 z25.toNat).data).length c55) (hx56 (inb_lt (imp_of hk51 hg53))).2 rfl Try.isAgg22 (gu hg53 rfl) rfl)) ?_
            refine wg0 rfl rfl rfl rfl rfl (fun hg57 => QV.qo (q_len_slice rfl Try.underlying22 (gu hg57 rfl))) ?_
            refine wg0 rfl rfl rfl rfl rfl (fun hg58 => QV.qo (q_gtr rfl (gu hg58 rfl) (gu hg58 rfl))) ?_
            refine wa rfl rfl rfl (q_pick rfl rfl (pk_or' (g := (decide (c_.n < 0))) (y := (decide (((((gt z15 z25.toNat).data).length : Nat) : Int) < c_.n))))) ?_
            refine WQ.nil ?_
            change WC _ _ _ _ _ _
            refine WC.cif h (by kernel_rfl) (fun hb59 h => ?_) (fun hb59 h => ?_)
            · skip
              refine WC.rs ?_
              refine va rfl rfl rfl (q_assign (v := .int .i64 1) rfl (by kernel_rfl)) ?_
              refine WR.nil ?_
              change WC _ _ _ _ _ _
              refine WC.ret ?_
              intro w hw
              obtain rfl := Option.some.inj h
              subst hF
              exact end_e (is := [0]) (by kernel_rfl) hw rfl ⟨rowd, rfl, rfl, (hd.mono hl18), (show I64 1 by decide), trivial⟩
            · skip
              refine WC.skip ?_
              intro w hw
              exact ⟨Γ17, h, (sl_ (by kernel_rfl)), hw, (Gh.refl _), trivial⟩
          · skip
            refine WC.skip ?_
            intro w hw
            exact ⟨Γ17, h, (sl_ (by kernel_rfl)), hw, (Gh.refl _), trivial⟩
    · skip
      rintro σ w ⟨Γ27, h, hsl, hw, hl28, -⟩
      refine Wpt.slots hsl ?_
      refine WC.here (C := CC F Γ27 [rowd, [(g1, .cells #[.int .i64 c_.kind, .string c_.name, .string c_.to_, .slice Ac_3 c_.data.length cc_3, .int .i64 c_.n] 83 (0, 0))]]) ?_ hw
      clear hw hsl
      refine WC.rs ?_
      refine va rfl rfl rfl (q_assign (v := .slice none 0 0) rfl (by kernel_rfl)) ?_
      refine WR.nil ?_
      change WC _ _ _ _ _ _
      refine WC.rs ?_
      refine va rfl rfl rfl (q_move (v := .slice none 0 0) rfl (by kernel_rfl)) ?_
      refine va rfl rfl rfl (q_fl 3 fld_83_3 rfl rfl rfl) ?_
      refine va rfl rfl rfl (q_ldl (i := 1) (v := .slice Ac_3 c_.data.length cc_3) rfl rfl Try.isAgg22 rfl rfl) ?_
      refine WR.sub (fun w hw => hw.pad) ?_
      obtain ⟨hk60, h⟩ := chk_some h
      refine e_append (T := byteT) (xs := []) (ys := c_.data) elem_22 (i := 0) rfl rfl rfl rfl (by kernel_rfl) rfl rfl (Own.nil byteT Γ27 5) (of_decide_eq_true hk60) (fun w hw => src_sl (hc_.2.2.2.1.2.mono (hl18.trans hl28)) hw) ?_
      intro row61 A62 c63 ho64
      refine va rfl rfl rfl (q_assign (v := .slice A62 c_.data.length c63) rfl (by kernel_rfl)) ?_
      refine WR.nil ?_
      change WC _ _ _ _ _ _
      refine WC.rs ?_
      refine va rfl rfl rfl (q_move (v := .slice A62 c_.data.length c63) rfl (by kernel_rfl)) ?_
      refine va rfl rfl rfl (q_fl 3 fld_83_3 rfl rfl rfl) ?_
      refine e_st (i := 2) (v := .slice A62 c_.data.length c63) (new := #[.int .i64 c_.kind, .string c_.name, .string c_.to_, .slice A62 c_.data.length c63, .int .i64 c_.n]) rfl Try.sizeOf22 rfl rfl rfl rfl (by kernel_rfl) rfl rfl rfl rfl ?_
      refine WR.nil ?_
      change WC _ _ _ _ _ _
      refine WC.seq ?_
      intro w hw; have h065 := hw.le
      refine WC.here (C := CC F Γ27 [row61, rowd, [(g1, .cells #[.int .i64 c_.kind, .string c_.name, .string c_.to_, .slice A62 c_.data.length c63, .int .i64 c_.n] 83 (0, 0))]]) ?_ hw; clear hw
      refine WC.held (CC F Γ27 [[(g1, .cells #[.int .i64 c_.kind, .string c_.name, .string c_.to_, .slice A62 c_.data.length c63, .int .i64 c_.n] 83 (0, 0))]]) (by kernel_rfl) (fun w hw => hw.drawn _) ?_
      change WH _ _ _ _ (CC F Γ27 [row61, rowd, [(g1, .cells #[.int .i64 c_.kind, .string c_.name, .string c_.to_, .slice A62 c_.data.length c63, .int .i64 c_.n] 83 (0, 0))]]) _ 11 #[false, false, false, false, false, false, false, false, false, false, false] _
      refine ht (i := 0) rfl (by kernel_rfl) rfl rfl rfl (fun w hw => hw.back (Gh.refl _) h065 (.cons _ (.cons _ (.cons_cons _ .slnil)))) (q_move (v := .pointer (some ⟨gd, 0, none⟩)) rfl (by kernel_rfl)) ?_
      refine ht (i := 1) rfl (by kernel_rfl) rfl rfl rfl (fun w hw => hw.back (Gh.refl _) h065 (.cons _ (.cons _ (.cons_cons _ .slnil)))) (q_move (v := .pointer (some ⟨gd, 0, none⟩)) rfl (by kernel_rfl)) ?_
      refine ht (i := 2) rfl (by kernel_rfl) rfl rfl rfl (fun w hw => hw.back (Gh.refl _) h065 (.cons _ (.cons _ (.cons_cons _ .slnil)))) (q_nil (A := some ⟨gd, 0, none⟩) rfl rfl rfl) ?_
      refine ht (i := 3) rfl (by kernel_rfl) rfl rfl rfl (fun w hw => hw.back (Gh.refl _) h065 (.cons _ (.cons _ (.cons_cons _ .slnil)))) (q_fl 2 fld_47_2 rfl rfl rfl) ?_
      refine ht (i := 5) rfl (by kernel_rfl) rfl rfl rfl (fun w hw => hw.back (Gh.refl _) h065 (.cons _ (.cons _ (.cons_cons _ .slnil)))) (q_ldla (i := 0) (vs := [.int .i64 c_.kind, .string c_.name, .string c_.to_, .slice A62 c_.data.length c63, .int .i64 c_.n]) rfl rfl Try.isAgg83 Try.sizeOf83 rfl rfl) ?_
      refine WH.each (l := [4, 6]) (by kernel_rfl) (by simp) ?_
      intro i hi; simp only [List.mem_cons, List.not_mem_nil, or_false] at hi
      rcases hi with rfl | rfl
      · refine ⟨_, rfl, ?_⟩
        have hq := (hd.mono (hl18.trans hl28))
        obtain ⟨A1_66, c1_66, A2_66, c2_66, r2_66, hrow_66, ho0_66, ho1_66, ho2_66, ho3_66, -⟩ := hq
        intro w hw; have hw := hw.unfold (i := 1) rfl hrow_66
        refine WR.here (C := CC F Γ27 [[(gd, .cells #[.int .i64 d.room, .slice A1_66 d.safe_.length c1_66, .slice A2_66 d.todo.length c2_66] ed (0, 0))], r2_66, row61, [(g1, .cells #[.int .i64 c_.kind, .string c_.name, .string c_.to_, .slice A62 c_.data.length c63, .int .i64 c_.n] 83 (0, 0))]]) ?_ hw
        clear hw
        refine va rfl rfl rfl (q_ldl (i := 0) (v := .slice A2_66 d.todo.length c2_66) rfl rfl Try.isAgg45 rfl rfl) ?_
        refine WR.nil ?_
        refine WH.next (fun w hw => hw.back (Gh.refl _) h065 (.cons _ (.cons _ (.cons _ (.cons_cons _ .slnil))))) ?_
        refine WH.lone (i := 6) (by kernel_rfl) rfl ?_
        have hc71 := ho64.capz
        intro w hw; obtain ⟨Γ67, hw, hl68, hr69⟩ := hw.seal (i := 2) rfl; have hs70 := ho64.sl hl68 hr69
        refine WR.here (C := CC F Γ67 [[(gd, .cells #[.int .i64 d.room, .slice A1_66 d.safe_.length c1_66, .slice A2_66 d.todo.length c2_66] ed (0, 0))], r2_66, [], [(g1, .cells #[.int .i64 c_.kind, .string c_.name, .string c_.to_, .slice A62 c_.data.length c63, .int .i64 c_.n] 83 (0, 0))]]) ?_ hw
        clear hw
        refine e_buildSlice (cs := #[.int .i64 c_.kind, .string c_.name, .string c_.to_, .slice A62 c_.data.length c63, .int .i64 c_.n]) (e := 83) rfl rfl rfl rfl (fun w => by kernel_rfl) ?_
        intro g72
        refine WR.nil ?_
        refine WH.next (fun w hw => hw.back hl68 h065 (.cons _ (.cons _ (.cons _ (.cons _ (.cons_cons _ .slnil)))))) ?_
        refine WH.lone (i := 7) (by kernel_rfl) rfl ?_
        obtain ⟨hk73, h⟩ := chk_some h
        refine e_append (T := dfirthref07_ChangeT) (xs := d.todo) (ys := [c_]) elem_45 (i := 2) rfl rfl rfl rfl rfl rfl rfl (ho3_66.mono hl68) (of_decide_eq_true hk73) (fun w hw => src_one (T := dfirthref07_ChangeT) (y := c_) (i := 0) rfl (by exact ⟨A62, c63, rfl, ⟨hc_.1, hc_.2.1, hc_.2.2.1, ⟨hc71, hs70⟩, hc_.2.2.2.2⟩⟩) hw) ?_
        intro row74 A75 c76 ho77
        refine WR.nil ?_
        refine WH.next (fun w hw => hw.back hl68 h065 (.cons _ (.cons _ (.cons _ (.cons _ (.cons_cons _ .slnil)))))) ?_
        refine ht (i := 8) rfl (by kernel_rfl) rfl rfl rfl (fun w hw => hw.back hl68 h065 (.cons _ (.cons _ (.cons _ (.cons _ (.cons_cons _ .slnil)))))) (q_nil (A := some ⟨gd, 0, none⟩) rfl rfl rfl) ?_
        refine ht (i := 9) rfl (by kernel_rfl) rfl rfl rfl (fun w hw => hw.back hl68 h065 (.cons _ (.cons _ (.cons _ (.cons _ (.cons_cons _ .slnil)))))) (q_fl 2 fld_47_2 rfl rfl rfl) ?_
        refine WH.lone (i := 10) (by kernel_rfl) rfl ?_
        refine e_st (i := 1) (v := .slice A75 (d.todo ++ [c_]).length c76) (new := #[.int .i64 d.room, .slice A1_66 d.safe_.length c1_66, .slice A75 (d.todo ++ [c_]).length c76]) rfl Try.sizeOf45 rfl rfl rfl rfl (by kernel_rfl) rfl rfl rfl rfl ?_
        refine WR.nil ?_
        refine WH.next (fun w hw => hw.back hl68 h065 (.cons _ (.cons _ (.cons _ (.cons _ (.cons_cons _ .slnil)))))) ?_
        refine WH.done (by kernel_rfl) ?_
        change WC _ _ _ _ _ _
        refine WC.rs ?_
        refine va rfl rfl rfl (q_assign (v := .int .i64 0) rfl (by kernel_rfl)) ?_
        refine WR.nil ?_
        change WC _ _ _ _ _ _
        refine WC.ret ?_
        intro w hw
        obtain ⟨row_78, hrow_78, hob_78⟩ : ∃ rw : Rowb, rw = ([[(gd, .cells #[.int .i64 d.room, .slice A1_66 d.safe_.length c1_66, .slice A75 (d.todo ++ [c_]).length c76] ed (0, 0))], row74] : List Rowb).flatten ∧ Ofirthref07_Disk.ob ed Γ67 gd rw (⟨d.room, d.safe_, (d.todo ++ [c_])⟩ : Ofirthref07_Disk) := ⟨_, rfl, A1_66, c1_66, A75, c76, row74, rfl, ho0_66, ho1_66, (ho2_66.mono hl68), ho77, trivial⟩
        have hw := hw.fold (is := [1, 1]) rfl hrow_78
        obtain rfl := Option.some.inj h
        subst hF
        exact end_e (is := [0]) (by kernel_rfl) hw rfl ⟨row_78, rfl, rfl, hob_78, (show I64 0 by decide), trivial⟩
      · refine ⟨_, rfl, ?_⟩
        have hc70 := ho64.capz
        intro w hw; obtain ⟨Γ66, hw, hl67, hr68⟩ := hw.seal (i := 0) rfl; have hs69 := ho64.sl hl67 hr68
        refine WR.here (C := CC F Γ66 [[], rowd, [(g1, .cells #[.int .i64 c_.kind, .string c_.name, .string c_.to_, .slice A62 c_.data.length c63, .int .i64 c_.n] 83 (0, 0))]]) ?_ hw
        clear hw
        refine e_buildSlice (cs := #[.int .i64 c_.kind, .string c_.name, .string c_.to_, .slice A62 c_.data.length c63, .int .i64 c_.n]) (e := 83) rfl rfl rfl rfl (fun w => by kernel_rfl) ?_
        intro g71
        refine WR.nil ?_
        refine WH.next (fun w hw => hw.back hl67 h065 (.cons _ (.cons _ (.cons _ (.cons_cons _ .slnil))))) ?_
        refine WH.lone (i := 4) (by kernel_rfl) rfl ?_
        have hq := (hd.mono ((hl18.trans hl28).trans hl67))
        obtain ⟨A1_72, c1_72, A2_72, c2_72, r2_72, hrow_72, ho0_72, ho1_72, ho2_72, ho3_72, -⟩ := hq
        intro w hw; have hw := hw.unfold (i := 2) rfl hrow_72
        refine WR.here (C := CC F Γ66 [[(gd, .cells #[.int .i64 d.room, .slice A1_72 d.safe_.length c1_72, .slice A2_72 d.todo.length c2_72] ed (0, 0))], r2_72, [(g71, .cells #[.int .i64 c_.kind, .string c_.name, .string c_.to_, .slice A62 c_.data.length c63, .int .i64 c_.n] 83 (0, 0))], [], [(g1, .cells #[.int .i64 c_.kind, .string c_.name, .string c_.to_, .slice A62 c_.data.length c63, .int .i64 c_.n] 83 (0, 0))]]) ?_ hw
        clear hw
        refine va rfl rfl rfl (q_ldl (i := 0) (v := .slice A2_72 d.todo.length c2_72) rfl rfl Try.isAgg45 rfl rfl) ?_
        refine WR.nil ?_
        refine WH.next (fun w hw => hw.back hl67 h065 (.cons _ (.cons _ (.cons _ (.cons _ (.cons_cons _ .slnil)))))) ?_
        refine WH.lone (i := 7) (by kernel_rfl) rfl ?_
        obtain ⟨hk73, h⟩ := chk_some h
        refine e_append (T := dfirthref07_ChangeT) (xs := d.todo) (ys := [c_]) elem_45 (i := 1) rfl rfl rfl rfl rfl rfl rfl ho3_72 (of_decide_eq_true hk73) (fun w hw => src_one (T := dfirthref07_ChangeT) (y := c_) (i := 2) rfl (by exact ⟨A62, c63, rfl, ⟨hc_.1, hc_.2.1, hc_.2.2.1, ⟨hc70, hs69⟩, hc_.2.2.2.2⟩⟩) hw) ?_
        intro row74 A75 c76 ho77
        refine WR.nil ?_
        refine WH.next (fun w hw => hw.back hl67 h065 (.cons _ (.cons _ (.cons _ (.cons _ (.cons_cons _ .slnil)))))) ?_
        refine ht (i := 8) rfl (by kernel_rfl) rfl rfl rfl (fun w hw => hw.back hl67 h065 (.cons _ (.cons _ (.cons _ (.cons _ (.cons_cons _ .slnil)))))) (q_nil (A := some ⟨gd, 0, none⟩) rfl rfl rfl) ?_
        refine ht (i := 9) rfl (by kernel_rfl) rfl rfl rfl (fun w hw => hw.back hl67 h065 (.cons _ (.cons _ (.cons _ (.cons _ (.cons_cons _ .slnil)))))) (q_fl 2 fld_47_2 rfl rfl rfl) ?_
        refine WH.lone (i := 10) (by kernel_rfl) rfl ?_
        refine e_st (i := 0) (v := .slice A75 (d.todo ++ [c_]).length c76) (new := #[.int .i64 d.room, .slice A1_72 d.safe_.length c1_72, .slice A75 (d.todo ++ [c_]).length c76]) rfl Try.sizeOf45 rfl rfl rfl rfl (by kernel_rfl) rfl rfl rfl rfl ?_
        refine WR.nil ?_
        refine WH.next (fun w hw => hw.back hl67 h065 (.cons _ (.cons _ (.cons _ (.cons _ (.cons_cons _ .slnil)))))) ?_
        refine WH.done (by kernel_rfl) ?_
        change WC _ _ _ _ _ _
        refine WC.rs ?_
        refine va rfl rfl rfl (q_assign (v := .int .i64 0) rfl (by kernel_rfl)) ?_
        refine WR.nil ?_
        change WC _ _ _ _ _ _
        refine WC.ret ?_
        intro w hw
        obtain ⟨row_78, hrow_78, hob_78⟩ : ∃ rw : Rowb, rw = ([[(gd, .cells #[.int .i64 d.room, .slice A1_72 d.safe_.length c1_72, .slice A75 (d.todo ++ [c_]).length c76] ed (0, 0))], row74] : List Rowb).flatten ∧ Ofirthref07_Disk.ob ed Γ66 gd rw (⟨d.room, d.safe_, (d.todo ++ [c_])⟩ : Ofirthref07_Disk) := ⟨_, rfl, A1_72, c1_72, A75, c76, row74, rfl, ho0_72, ho1_72, ho2_72, ho77, trivial⟩
        have hw := hw.fold (is := [0, 0]) rfl hrow_78
        obtain rfl := Option.some.inj h
        subst hF
        exact end_e (is := [0]) (by kernel_rfl) hw rfl ⟨row_78, rfl, rfl, hob_78, (show I64 0 by decide), trivial⟩
abbrev r_firthref07_Disk_Append (gd ed : Nat) (r : Ofirthref07_Disk × Int) (U : List Rowb) (Γ : Gh) (v : Value) : Prop := ∃ (rowd' : Rowb), v = .int .i64 r.2 ∧ U = [rowd'] ∧ Ofirthref07_Disk.ob ed Γ gd rowd' r.1 ∧ I64 r.2 ∧ True
set_option maxRecDepth 100000 in
set_option maxHeartbeats 400000 in
theorem t_firthref07_Disk_Append {Γ : Gh} {w0 : World} {gd ed : Nat} {rowd : Rowb} {d : Ofirthref07_Disk} (hd : Ofirthref07_Disk.ob ed Γ gd rowd d) (name : ByteArray) (hname : name.size ≤ lim) {Ab : Option Addr} {cb : Nat} {b : List UInt8} (hb : Sl byteT Γ Ab b) (hbc : b.length ≤ cb) (hp : Pre [rowd] Γ w0) {r : Ofirthref07_Disk × Int} (h : m_firthref07_Disk_Append d name b = some r) : Calls Try.prog 36 #[.pointer (some ⟨gd, 0, none⟩), .string name, .slice Ab b.length cb] w0 (Outc Γ [rowd] w0 (r_firthref07_Disk_Append gd ed r)) := by
  refine calls_of (N := 12) (rs := [6]) (args := [.pointer (some ⟨gd, 0, none⟩), .string name, .slice Ab b.length cb]) Try.func36 rfl Try.ntmps36 Try.results36 rfl ?_
  obtain ⟨F, hF⟩ : ∃ F : Fm, F = ⟨ids [rowd], w0, Γ⟩ := ⟨_, rfl⟩
  refine WC.here (C := CC F Γ [rowd]) ?_ (hF ▸ hp.start)
  refine WC.rs ?_
  refine va rfl rfl rfl (q_assign (v := .int .i64 0) rfl (by kernel_rfl)) ?_
  refine WR.nil ?_
  change WC _ _ _ _ _ _
  refine WC.rs ?_
  refine va rfl rfl rfl (q_move (v := .pointer (some ⟨gd, 0, none⟩)) rfl (by kernel_rfl)) ?_
  refine va rfl rfl rfl (q_move (v := .string name) rfl (by kernel_rfl)) ?_
  refine va rfl rfl rfl (q_move (v := .slice Ab b.length cb) rfl (by kernel_rfl)) ?_
  refine va rfl rfl rfl (q_build' (v := .agg #[.int .i64 1, .string name, .string ByteArray.empty, .slice Ab b.length cb, .int .i64 0]) rfl (bargs3 rfl rfl rfl) (fun w => by kernel_rfl)) ?_
  obtain ⟨z1, hz2, h⟩ := bnd h
  refine e_call (is := [0]) rfl rfl (call_run Try.call52 rfl rfl (by kernel_rfl)) rfl (fun w hp => t_firthref07_Disk_Do hd (⟨1, name, ByteArray.empty, b, 0⟩ : Dfirthref07_Change) ⟨(show I64 1 by decide), hname, (show (ByteArray.empty : ByteArray).size ≤ lim by decide), ⟨hbc, hb⟩, (show I64 0 by decide)⟩ hp hz2) ?_
  rintro Γ3 U5 v6 hl4 ⟨row7, rfl, rfl, hr8, hr9, _⟩
  change WR _ _ _ (CC F Γ3 [row7]) _ _ (upd _ 11 (.int .i64 z1.2))
  refine va rfl rfl rfl (q_assign (v := .int .i64 z1.2) rfl (by kernel_rfl)) ?_
  refine WR.nil ?_
  change WC _ _ _ _ _ _
  refine WC.ret ?_
  intro w hw
  obtain rfl := Option.some.inj h
  subst hF
  exact end_e (is := [0]) (by kernel_rfl) hw rfl ⟨row7, rfl, rfl, hr8, hr9, trivial⟩
set_option maxRecDepth 100000 in
set_option maxHeartbeats 400000 in
theorem t_disk_Disk_there {Γ : Gh} {w0 : World} {gd ed : Nat} {rowd : Rowb} {d : Odisk_Disk} (hd : Odisk_Disk.ob ed Γ gd rowd d) (hdr : ∀ p ∈ rowd, Γ p.1 = some p.2) (name : ByteArray) (hname : name.size ≤ lim) (hs : Sat Γ w0) {r : Int} (h : m_disk_Disk_there d name = some r) : Calls Try.prog 31 #[.pointer (some ⟨gd, 0, none⟩), .string name] w0 (fun e w' => e = .returned (.int .i64 r) ∧ Fr no w0 w') := by
  refine calls_of (N := 22) (rs := [4]) (args := [.pointer (some ⟨gd, 0, none⟩), .string name]) Try.func31 rfl Try.ntmps31 Try.results31 rfl ?_
  obtain ⟨F, hF⟩ : ∃ F : Fm, F = ⟨no, w0, Γ⟩ := ⟨_, rfl⟩
  refine WC.here (C := CC F Γ []) ?_ (hF ▸ Cur.start0 hs)
  refine WC.rs ?_
  refine va rfl rfl rfl (q_assign (v := .int .i64 0) rfl (by kernel_rfl)) ?_
  refine WR.nil ?_
  change WC _ _ _ _ _ _
  refine WC.seq ?_
  refine WC.rs ?_
  refine va rfl rfl rfl (q_move (v := .string name) rfl (by kernel_rfl)) ?_
  refine e_buildSlice (cs := #[.string name]) (e := 9) rfl rfl rfl rfl (fun w => by kernel_rfl) ?_
  intro g1
  have ho2 : Own strT Γ 9 [(g1, .cells #[.string name] 9 (0, 0))] (some ⟨g1, 0, none⟩) 1 [name] := Own.of_block (T := strT) (ys := [name]) [[.string name]] rfl rfl (show 1 ≤ lim by decide) (fun i h => match i, h with | 0, _ => (show Ty.rd strT Γ [.string name] name from ⟨rfl, hname⟩))
  obtain ⟨z3, hz4, h⟩ := bnd h
  refine vc rfl rfl rfl (q_call (call_run Try.call26 rfl rfl (by kernel_rfl)) (fun w hw => t_disk_right (Γ := Gh.all w) (ho2.sl hw.sat.le_all (hw.ra 0 rfl)) ho2.capz (Sat.all w) hz4)) ?_
  refine va rfl rfl rfl (q_not rfl rfl) ?_
  refine WR.nil ?_
  change WC _ _ _ _ _ _
  refine WC.cif h (by kernel_rfl) (fun hb5 h => ?_) (fun hb5 h => ?_)
  · skip
    refine WC.rs ?_
    refine va rfl rfl rfl (q_assign (v := .int .i64 70) rfl (by kernel_rfl)) ?_
    refine WR.nil ?_
    change WC _ _ _ _ _ _
    refine WC.ret ?_
    intro w hw
    obtain rfl := Option.some.inj h
    subst hF
    exact ⟨by kernel_rfl, hw.fr⟩
  · skip
    refine WC.skip ?_
    change WC _ _ _ _ _ _
    refine WC.seq ?_
    refine WC.rs ?_
    refine va rfl rfl rfl (q_move (v := .pointer (some ⟨gd, 0, none⟩)) rfl (by kernel_rfl)) ?_
    refine va rfl rfl rfl (q_nil (A := some ⟨gd, 0, none⟩) rfl rfl rfl) ?_
    refine va rfl rfl rfl (q_fl 2 fld_61_2 rfl rfl rfl) ?_
    have hq := hd
    obtain ⟨m1_6, r1_6, m2_6, r2_6, A3_6, c3_6, r3_6, hrow_6, ho0_6, ho1_6, ho2_6, ho3_6, -⟩ := hq
    have hg_7 : ∀ u ∈ ([[(gd, .cells #[.int .i64 d.room, .map (some m1_6), .map (some m2_6), .slice A3_6 d.loose.length c3_6] ed (0, 0))], r1_6, r2_6, r3_6] : List Rowb), ∀ p ∈ u, Γ p.1 = some p.2 := fun u hu p hp => (fun p hp => (hdr p hp)) p (hrow_6 ▸ List.mem_flatten.2 ⟨u, hu, hp⟩)
    have hgc8 := hg_7 _ (List.mem_cons_self ..) (gd, _) (List.mem_singleton.2 rfl)
    have hgs9 := hg_7 r1_6 (by simp)
    have hgs10 := hg_7 r2_6 (by simp)
    have hgs11 := hg_7 r3_6 (by simp)
    have hs12 := ho3_6.sl (Gh.refl _) hgs11
    refine va rfl rfl rfl (q_ldg (v := .map (some m2_6)) hgc8 rfl Try.isAgg58 rfl rfl) ?_
    refine va rfl rfl rfl (q_move (v := .string name) rfl (by kernel_rfl)) ?_
    obtain ⟨v13, ⟨A16, c17, hv14, hc18, hs19⟩, hat15⟩ := MapO.look ho2_6 name (z := .slice none 0 0) (zx := []) ⟨none, 0, rfl, Nat.zero_le _, Sl.nil _ _ _⟩
    obtain rfl : v13 = _ := List.cons.inj hv14 |>.1
    refine va rfl rfl rfl (q_lookup2g (v := .slice A16 ((mget name d.seen).getD []).length c17) (fun p hp => (hgs10 p hp)) hat15 rfl Try.underlying58 Try.zeroValue22 rfl rfl) ?_
    refine va rfl rfl rfl (q_move (v := .tuple #[.slice A16 ((mget name d.seen).getD []).length c17, .bool ((mget name d.seen).isSome)]) rfl (by kernel_rfl)) ?_
    refine va rfl rfl rfl (q_extract (v := .slice A16 ((mget name d.seen).getD []).length c17) rfl rfl rfl) ?_
    refine va rfl rfl rfl (q_extract (v := .bool ((mget name d.seen).isSome)) rfl rfl rfl) ?_
    refine va rfl rfl rfl (q_assign (v := .slice A16 ((mget name d.seen).getD []).length c17) rfl (by kernel_rfl)) ?_
    refine va rfl rfl rfl (q_assign (v := .bool ((mget name d.seen).isSome)) rfl (by kernel_rfl)) ?_
    refine WR.nil ?_
    change WC _ _ _ _ _ _
    refine WC.rs ?_
    refine va rfl rfl rfl (q_move (v := .bool ((mget name d.seen).isSome)) rfl (by kernel_rfl)) ?_
    refine va rfl rfl rfl (q_not rfl rfl) ?_
    refine WR.nil ?_
    change WC _ _ _ _ _ _
    refine WC.cif h (by kernel_rfl) (fun hb20 h => ?_) (fun hb20 h => ?_)
    · skip
      refine WC.rs ?_
      refine va rfl rfl rfl (q_assign (v := .int .i64 71) rfl (by kernel_rfl)) ?_
      refine WR.nil ?_
      change WC _ _ _ _ _ _
      refine WC.ret ?_
      intro w hw
      obtain rfl := Option.some.inj h
      subst hF
      exact ⟨by kernel_rfl, hw.fr⟩
    · skip
      refine WC.skip ?_
      change WC _ _ _ _ _ _
      refine WC.rs ?_
      refine va rfl rfl rfl (q_assign (v := .int .i64 0) rfl (by kernel_rfl)) ?_
      refine WR.nil ?_
      change WC _ _ _ _ _ _
      refine WC.ret ?_
      intro w hw
      obtain rfl := Option.some.inj h
      subst hF
      exact ⟨by kernel_rfl, hw.fr⟩
abbrev r_disk_Disk_Cut (gd ed : Nat) (r : Odisk_Disk × Int) (U : List Rowb) (Γ : Gh) (v : Value) : Prop := ∃ (rowd' : Rowb), v = .int .i64 r.2 ∧ U = [rowd'] ∧ Odisk_Disk.ob ed Γ gd rowd' r.1 ∧ I64 r.2 ∧ True
set_option maxRecDepth 100000 in
set_option maxHeartbeats 400000 in
theorem t_disk_Disk_Cut {Γ : Gh} {w0 : World} {gd ed : Nat} {rowd : Rowb} {d : Odisk_Disk} (hd : Odisk_Disk.ob ed Γ gd rowd d) (name : ByteArray) (hname : name.size ≤ lim) (n : Int) (hn : I64 n) (hp : Pre [rowd] Γ w0) {r : Odisk_Disk × Int} (h : m_disk_Disk_Cut d name n = some r) : Calls Try.prog 37 #[.pointer (some ⟨gd, 0, none⟩), .string name, .int .i64 n] w0 (Outc Γ [rowd] w0 (r_disk_Disk_Cut gd ed r)) := by
  refine calls_of (N := 31) (rs := [6]) (args := [.pointer (some ⟨gd, 0, none⟩), .string name, .int .i64 n]) Try.func37 rfl Try.ntmps37 Try.results37 rfl ?_
  obtain ⟨F, hF⟩ : ∃ F : Fm, F = ⟨ids [rowd], w0, Γ⟩ := ⟨_, rfl⟩
  refine WC.here (C := CC F Γ [rowd]) ?_ (hF ▸ hp.start)
  refine WC.rs ?_
  refine e_box (v := .string name) rfl rfl rfl rfl (by kernel_rfl) ?_
  intro g1
  refine e_box (v := .int .i64 n) rfl rfl rfl rfl (by kernel_rfl) ?_
  intro g2
  refine va rfl rfl rfl (q_assign (v := .int .i64 0) rfl (by kernel_rfl)) ?_
  refine WR.nil ?_
  change WC _ _ _ _ _ _
  refine WC.seq ?_
  refine WC.rs ?_
  refine va rfl rfl rfl (q_move (v := .pointer (some ⟨gd, 0, none⟩)) rfl (by kernel_rfl)) ?_
  refine va rfl rfl rfl (q_ldl (i := 1) (v := .string name) rfl rfl Try.isAgg9 rfl rfl) ?_
  obtain ⟨z3, hz4, h⟩ := bnd h
  refine vc rfl rfl rfl (q_call (call_run Try.call31 rfl rfl (by kernel_rfl)) (fun w hw => t_disk_Disk_there (Γ := Gh.all w) (hd.mono hw.sat.le_all) (hw.ra 2 rfl) name hname (Sat.all w) hz4)) ?_
  refine va rfl rfl rfl (q_assign (v := .int .i64 z3) rfl (by kernel_rfl)) ?_
  refine WR.nil ?_
  change WC _ _ _ _ _ _
  refine WC.rs ?_
  refine va rfl rfl rfl (q_move (v := .int .i64 z3) rfl (by kernel_rfl)) ?_
  refine va rfl rfl rfl (q_neq rfl rfl rfl) ?_
  refine WR.nil ?_
  change WC _ _ _ _ _ _
  refine WC.cif h (by kernel_rfl) (fun hb5 h => ?_) (fun hb5 h => ?_)
  · skip
    refine WC.rs ?_
    refine va rfl rfl rfl (q_move (v := .int .i64 z3) rfl (by kernel_rfl)) ?_
    refine va rfl rfl rfl (q_assign (v := .int .i64 z3) rfl (by kernel_rfl)) ?_
    refine WR.nil ?_
    change WC _ _ _ _ _ _
    refine WC.ret ?_
    intro w hw
    obtain ⟨hk6, h⟩ := chk_some h
    obtain rfl := Option.some.inj h
    subst hF
    exact end_e (is := [2]) (by kernel_rfl) hw rfl ⟨rowd, rfl, rfl, hd, (i64b_of hk6), trivial⟩
  · skip
    refine WC.skip ?_
    change WC _ _ _ _ _ _
    refine WC.seq ?_
    refine WC.seq ?_
    have hq := hd
    obtain ⟨m1_7, r1_7, m2_7, r2_7, A3_7, c3_7, r3_7, hrow_7, ho0_7, ho1_7, ho2_7, ho3_7, -⟩ := hq
    intro w hw; have hw := hw.unfold (i := 2) rfl hrow_7
    refine WC.here (C := CC F Γ [[(gd, .cells #[.int .i64 d.room, .map (some m1_7), .map (some m2_7), .slice A3_7 d.loose.length c3_7] ed (0, 0))], r1_7, r2_7, r3_7, [(g2, .cells #[.int .i64 n] 3 (0, 0))], [(g1, .cells #[.string name] 9 (0, 0))]]) ?_ hw
    clear hw
    refine WC.dr (by kernel_rfl) (by kernel_rfl) (fun w hw => hw.drawn _) ?_
    refine wa rfl rfl rfl (q_ldl (i := 4) (v := .int .i64 n) rfl rfl Try.isAgg3 rfl rfl) ?_
    refine wa rfl rfl rfl (q_lss rfl rfl rfl) ?_
    refine wa rfl rfl rfl (q_move (v := .bool (decide (n < 0))) rfl (by kernel_rfl)) ?_
    refine wg0 rfl rfl rfl rfl rfl (fun hg8 => QV.qo (q_ldl (i := 4) (v := .int .i64 n) rfl rfl Try.isAgg3 rfl rfl)) ?_
    refine wg0 rfl rfl rfl rfl rfl (fun hg9 => QV.qo (q_move (v := .pointer (some ⟨gd, 0, none⟩)) rfl (by kernel_rfl))) ?_
    refine wg0 rfl rfl rfl rfl rfl (fun hg10 => QV.qo (q_nil (A := some ⟨gd, 0, none⟩) rfl (gu hg10 rfl) rfl)) ?_
    refine wg0 rfl rfl rfl rfl rfl (fun hg11 => QV.qo (q_fl 2 fld_61_2 rfl (gu hg11 rfl) rfl)) ?_
    refine wg0 rfl rfl rfl rfl rfl (fun hg12 => QV.qo (q_ldl (i := 0) (v := .map (some m2_7)) rfl rfl Try.isAgg58 (gu hg12 rfl) rfl)) ?_
    refine wg0 rfl rfl rfl rfl rfl (fun hg13 => QV.qo (q_ldl (i := 5) (v := .string name) rfl rfl Try.isAgg9 rfl rfl)) ?_
    obtain ⟨v15, ⟨A18, c19, hv16, hc20, hs21⟩, hat17⟩ := MapO.look ho2_7 name (z := .slice none 0 0) (zx := []) ⟨none, 0, rfl, Nat.zero_le _, Sl.nil _ _ _⟩
    obtain rfl : v15 = _ := List.cons.inj hv16 |>.1
    refine wg0 rfl rfl rfl rfl rfl (fun hg14 => QV.qo (q_lookup1 (v := .slice A18 ((mget name d.seen).getD []).length c19) hat17 rfl Try.underlying58 Try.zeroValue22 (gu hg14 rfl) (gu hg14 rfl) (i := 2) rfl)) ?_
    refine wg0 rfl rfl rfl rfl rfl (fun hg22 => QV.qo (q_len_slice rfl Try.underlying22 (gu hg22 rfl))) ?_
    refine wg0 rfl rfl rfl rfl rfl (fun hg23 => QV.qo (q_gtr rfl (gu hg23 rfl) (gu hg23 rfl))) ?_
    refine wa rfl rfl rfl (q_pick rfl rfl (pk_or' (g := (decide (n < 0))) (y := (decide (((((mget name d.seen).getD []).length : Nat) : Int) < n))))) ?_
    refine WQ.nil ?_
    change WC _ _ _ _ _ _
    refine WC.cif h (by kernel_rfl) (fun hb24 h => ?_) (fun hb24 h => ?_)
    · skip
      refine WC.rs ?_
      refine va rfl rfl rfl (q_assign (v := .int .i64 1) rfl (by kernel_rfl)) ?_
      refine WR.nil ?_
      change WC _ _ _ _ _ _
      refine WC.ret ?_
      intro w hw
      have hw := hw.fold (is := [0, 0, 0, 0]) rfl hrow_7
      obtain rfl := Option.some.inj h
      subst hF
      exact end_e (is := [0]) (by kernel_rfl) hw rfl ⟨rowd, rfl, rfl, hd, (show I64 1 by decide), trivial⟩
    · skip
      refine WC.skip ?_
      change WC _ _ _ _ _ _
      refine WC.rs ?_
      refine va rfl rfl rfl (q_move (v := .pointer (some ⟨gd, 0, none⟩)) rfl (by kernel_rfl)) ?_
      refine va rfl rfl rfl (q_mkfn (v := .func (.func 53) #[] #[.pointer (some ⟨g1, 0, none⟩), .pointer (some ⟨g2, 0, none⟩)]) rfl (by kernel_rfl)) ?_
      refine va rfl rfl rfl (q_build' (v := .agg #[.func (.func 53) #[] #[.pointer (some ⟨g1, 0, none⟩), .pointer (some ⟨g2, 0, none⟩)], .string ByteArray.empty, .slice none 0 0]) rfl (bargs1 rfl) (fun w => by kernel_rfl)) ?_
      intro w hw; have hw := hw.fold (is := [0, 0, 0, 0]) rfl hrow_7
      refine WR.here (C := CC F Γ [rowd, [(g2, .cells #[.int .i64 n] 3 (0, 0))], [(g1, .cells #[.string name] 9 (0, 0))]]) ?_ hw
      clear hw
      intro w hw; obtain ⟨Γ27, hw, hl28, hr29⟩ := hw.seal (i := 2) rfl
      have hg30 := hr29 _ (List.mem_singleton.2 rfl)
      refine WR.here (C := CC F Γ27 [rowd, [(g2, .cells #[.int .i64 n] 3 (0, 0))], []]) ?_ hw
      clear hw
      intro w hw; obtain ⟨Γ31, hw, hl32, hr33⟩ := hw.seal (i := 1) rfl
      have hg34 := hr33 _ (List.mem_singleton.2 rfl)
      refine WR.here (C := CC F Γ31 [rowd, [], []]) ?_ hw
      clear hw
      have hf35 : Cdisk_change_do.ok Γ31 (some ⟨g2, 0, none⟩) g1 (Cdisk_change_do.disk_Disk_Cut_1 name n) := ⟨⟨(hl32 _ _ hg30), hname⟩, ⟨g2, rfl, hg34, hn⟩, trivial⟩
      obtain ⟨z36, hz37, h⟩ := bnd h
      refine e_call (is := [0]) rfl rfl (call_run Try.call28 rfl rfl (by kernel_rfl)) rfl (fun w hp => t_disk_Disk_done (hd.mono (hl28.trans hl32)) (Ac_2 := none) (cc_2 := 0) (⟨(Cdisk_change_do.disk_Disk_Cut_1 name n), ByteArray.empty, []⟩ : Ddisk_change) ⟨hf35, (show (ByteArray.empty : ByteArray).size ≤ lim by decide), ⟨Nat.zero_le _, Sl.nil _ _ _⟩⟩ hp hz37) ?_
      rintro Γ38 U40 v41 hl39 ⟨row42, rfl, rfl, hr43, hr44, _⟩
      change WR _ _ _ (CC F Γ38 [row42, [], []]) _ _ (upd _ 30 (.int .i64 z36.2))
      refine va rfl rfl rfl (q_assign (v := .int .i64 z36.2) rfl (by kernel_rfl)) ?_
      refine WR.nil ?_
      change WC _ _ _ _ _ _
      refine WC.ret ?_
      intro w hw
      obtain rfl := Option.some.inj h
      subst hF
      exact end_e (is := [0]) (by kernel_rfl) hw rfl ⟨row42, rfl, rfl, hr43, hr44, trivial⟩
abbrev r_firthref07_Disk_Cut (gd ed : Nat) (r : Ofirthref07_Disk × Int) (U : List Rowb) (Γ : Gh) (v : Value) : Prop := ∃ (rowd' : Rowb), v = .int .i64 r.2 ∧ U = [rowd'] ∧ Ofirthref07_Disk.ob ed Γ gd rowd' r.1 ∧ I64 r.2 ∧ True
set_option maxRecDepth 100000 in
set_option maxHeartbeats 400000 in
theorem t_firthref07_Disk_Cut {Γ : Gh} {w0 : World} {gd ed : Nat} {rowd : Rowb} {d : Ofirthref07_Disk} (hd : Ofirthref07_Disk.ob ed Γ gd rowd d) (name : ByteArray) (hname : name.size ≤ lim) (n : Int) (hn : I64 n) (hp : Pre [rowd] Γ w0) {r : Ofirthref07_Disk × Int} (h : m_firthref07_Disk_Cut d name n = some r) : Calls Try.prog 38 #[.pointer (some ⟨gd, 0, none⟩), .string name, .int .i64 n] w0 (Outc Γ [rowd] w0 (r_firthref07_Disk_Cut gd ed r)) := by
  refine calls_of (N := 12) (rs := [6]) (args := [.pointer (some ⟨gd, 0, none⟩), .string name, .int .i64 n]) Try.func38 rfl Try.ntmps38 Try.results38 rfl ?_
  obtain ⟨F, hF⟩ : ∃ F : Fm, F = ⟨ids [rowd], w0, Γ⟩ := ⟨_, rfl⟩
  refine WC.here (C := CC F Γ [rowd]) ?_ (hF ▸ hp.start)
  refine WC.rs ?_
  refine va rfl rfl rfl (q_assign (v := .int .i64 0) rfl (by kernel_rfl)) ?_
  refine WR.nil ?_
  change WC _ _ _ _ _ _
  refine WC.rs ?_
  refine va rfl rfl rfl (q_move (v := .pointer (some ⟨gd, 0, none⟩)) rfl (by kernel_rfl)) ?_
  refine va rfl rfl rfl (q_move (v := .string name) rfl (by kernel_rfl)) ?_
  refine va rfl rfl rfl (q_move (v := .int .i64 n) rfl (by kernel_rfl)) ?_
  refine va rfl rfl rfl (q_build' (v := .agg #[.int .i64 2, .string name, .string ByteArray.empty, .slice none 0 0, .int .i64 n]) rfl (bargs3 rfl rfl rfl) (fun w => by kernel_rfl)) ?_
  obtain ⟨z1, hz2, h⟩ := bnd h
  refine e_call (is := [0]) rfl rfl (call_run Try.call52 rfl rfl (by kernel_rfl)) rfl (fun w hp => t_firthref07_Disk_Do hd (Ac_3 := none) (cc_3 := 0) (⟨2, name, ByteArray.empty, [], n⟩ : Dfirthref07_Change) ⟨(show I64 2 by decide), hname, (show (ByteArray.empty : ByteArray).size ≤ lim by decide), ⟨Nat.zero_le _, Sl.nil _ _ _⟩, hn⟩ hp hz2) ?_
  rintro Γ3 U5 v6 hl4 ⟨row7, rfl, rfl, hr8, hr9, _⟩
  change WR _ _ _ (CC F Γ3 [row7]) _ _ (upd _ 11 (.int .i64 z1.2))
  refine va rfl rfl rfl (q_assign (v := .int .i64 z1.2) rfl (by kernel_rfl)) ?_
  refine WR.nil ?_
  change WC _ _ _ _ _ _
  refine WC.ret ?_
  intro w hw
  obtain rfl := Option.some.inj h
  subst hF
  exact end_e (is := [0]) (by kernel_rfl) hw rfl ⟨row7, rfl, rfl, hr8, hr9, trivial⟩
abbrev r_disk_Disk_Rename (gd ed : Nat) (r : Odisk_Disk × Int) (U : List Rowb) (Γ : Gh) (v : Value) : Prop := ∃ (rowd' : Rowb), v = .int .i64 r.2 ∧ U = [rowd'] ∧ Odisk_Disk.ob ed Γ gd rowd' r.1 ∧ I64 r.2 ∧ True
set_option maxRecDepth 100000 in
set_option maxHeartbeats 400000 in
theorem t_disk_Disk_Rename {Γ : Gh} {w0 : World} {gd ed : Nat} {rowd : Rowb} {d : Odisk_Disk} (hd : Odisk_Disk.ob ed Γ gd rowd d) (from_ : ByteArray) (hfrom_ : from_.size ≤ lim) (to_ : ByteArray) (hto_ : to_.size ≤ lim) (hp : Pre [rowd] Γ w0) {r : Odisk_Disk × Int} (h : m_disk_Disk_Rename d from_ to_ = some r) : Calls Try.prog 14 #[.pointer (some ⟨gd, 0, none⟩), .string from_, .string to_] w0 (Outc Γ [rowd] w0 (r_disk_Disk_Rename gd ed r)) := by
  refine calls_of (N := 23) (rs := [6]) (args := [.pointer (some ⟨gd, 0, none⟩), .string from_, .string to_]) Try.func14 rfl Try.ntmps14 Try.results14 rfl ?_
  obtain ⟨F, hF⟩ : ∃ F : Fm, F = ⟨ids [rowd], w0, Γ⟩ := ⟨_, rfl⟩
  refine WC.here (C := CC F Γ [rowd]) ?_ (hF ▸ hp.start)
  refine WC.rs ?_
  refine e_box (v := .string from_) rfl rfl rfl rfl (by kernel_rfl) ?_
  intro g1
  refine e_box (v := .string to_) rfl rfl rfl rfl (by kernel_rfl) ?_
  intro g2
  refine va rfl rfl rfl (q_assign (v := .int .i64 0) rfl (by kernel_rfl)) ?_
  refine WR.nil ?_
  change WC _ _ _ _ _ _
  refine WC.seq ?_
  refine WC.rs ?_
  refine va rfl rfl rfl (q_ldl (i := 1) (v := .string from_) rfl rfl Try.isAgg9 rfl rfl) ?_
  refine va rfl rfl rfl (q_ldl (i := 0) (v := .string to_) rfl rfl Try.isAgg9 rfl rfl) ?_
  refine e_buildSlice (cs := #[.string from_, .string to_]) (e := 9) rfl rfl rfl rfl (fun w => by kernel_rfl) ?_
  intro g3
  have ho4 : Own strT Γ 9 [(g3, .cells #[.string from_, .string to_] 9 (0, 0))] (some ⟨g3, 0, none⟩) 2 [from_, to_] := Own.of_block (T := strT) (ys := [from_, to_]) [[.string from_], [.string to_]] rfl rfl (show 2 ≤ lim by decide) (fun i h => match i, h with | 0, _ => (show Ty.rd strT Γ [.string from_] from_ from ⟨rfl, hfrom_⟩) | 1, _ => (show Ty.rd strT Γ [.string to_] to_ from ⟨rfl, hto_⟩))
  obtain ⟨z5, hz6, h⟩ := bnd h
  refine vc rfl rfl rfl (q_call (call_run Try.call26 rfl rfl (by kernel_rfl)) (fun w hw => t_disk_right (Γ := Gh.all w) (ho4.sl hw.sat.le_all (hw.ra 0 rfl)) ho4.capz (Sat.all w) hz6)) ?_
  refine va rfl rfl rfl (q_not rfl rfl) ?_
  refine WR.nil ?_
  change WC _ _ _ _ _ _
  refine WC.cif h (by kernel_rfl) (fun hb7 h => ?_) (fun hb7 h => ?_)
  · skip
    refine WC.rs ?_
    refine va rfl rfl rfl (q_assign (v := .int .i64 70) rfl (by kernel_rfl)) ?_
    refine WR.nil ?_
    change WC _ _ _ _ _ _
    refine WC.ret ?_
    intro w hw
    obtain rfl := Option.some.inj h
    subst hF
    exact end_e (is := [3]) (by kernel_rfl) hw rfl ⟨rowd, rfl, rfl, hd, (show I64 70 by decide), trivial⟩
  · skip
    refine WC.skip ?_
    change WC _ _ _ _ _ _
    refine WC.seq ?_
    refine WC.rs ?_
    refine va rfl rfl rfl (q_move (v := .pointer (some ⟨gd, 0, none⟩)) rfl (by kernel_rfl)) ?_
    refine va rfl rfl rfl (q_ldl (i := 2) (v := .string from_) rfl rfl Try.isAgg9 rfl rfl) ?_
    obtain ⟨z8, hz9, h⟩ := bnd h
    refine vc rfl rfl rfl (q_call (call_run Try.call31 rfl rfl (by kernel_rfl)) (fun w hw => t_disk_Disk_there (Γ := Gh.all w) (hd.mono hw.sat.le_all) (hw.ra 3 rfl) from_ hfrom_ (Sat.all w) hz9)) ?_
    refine va rfl rfl rfl (q_assign (v := .int .i64 z8) rfl (by kernel_rfl)) ?_
    refine WR.nil ?_
    change WC _ _ _ _ _ _
    refine WC.rs ?_
    refine va rfl rfl rfl (q_move (v := .int .i64 z8) rfl (by kernel_rfl)) ?_
    refine va rfl rfl rfl (q_neq rfl rfl rfl) ?_
    refine WR.nil ?_
    change WC _ _ _ _ _ _
    refine WC.cif h (by kernel_rfl) (fun hb10 h => ?_) (fun hb10 h => ?_)
    · skip
      refine WC.rs ?_
      refine va rfl rfl rfl (q_move (v := .int .i64 z8) rfl (by kernel_rfl)) ?_
      refine va rfl rfl rfl (q_assign (v := .int .i64 z8) rfl (by kernel_rfl)) ?_
      refine WR.nil ?_
      change WC _ _ _ _ _ _
      refine WC.ret ?_
      intro w hw
      obtain ⟨hk11, h⟩ := chk_some h
      obtain rfl := Option.some.inj h
      subst hF
      exact end_e (is := [3]) (by kernel_rfl) hw rfl ⟨rowd, rfl, rfl, hd, (i64b_of hk11), trivial⟩
    · skip
      refine WC.skip ?_
      change WC _ _ _ _ _ _
      refine WC.rs ?_
      refine va rfl rfl rfl (q_move (v := .pointer (some ⟨gd, 0, none⟩)) rfl (by kernel_rfl)) ?_
      refine va rfl rfl rfl (q_mkfn (v := .func (.func 32) #[] #[.pointer (some ⟨g1, 0, none⟩), .pointer (some ⟨g2, 0, none⟩)]) rfl (by kernel_rfl)) ?_
      refine va rfl rfl rfl (q_build' (v := .agg #[.func (.func 32) #[] #[.pointer (some ⟨g1, 0, none⟩), .pointer (some ⟨g2, 0, none⟩)], .string ByteArray.empty, .slice none 0 0]) rfl (bargs1 rfl) (fun w => by kernel_rfl)) ?_
      intro w hw; obtain ⟨Γ12, hw, hl13, hr14⟩ := hw.seal (i := 2) rfl
      have hg15 := hr14 _ (List.mem_singleton.2 rfl)
      refine WR.here (C := CC F Γ12 [[(g3, .cells #[.string from_, .string to_] 9 (0, 0))], [(g2, .cells #[.string to_] 9 (0, 0))], [], rowd]) ?_ hw
      clear hw
      intro w hw; obtain ⟨Γ16, hw, hl17, hr18⟩ := hw.seal (i := 1) rfl
      have hg19 := hr18 _ (List.mem_singleton.2 rfl)
      refine WR.here (C := CC F Γ16 [[(g3, .cells #[.string from_, .string to_] 9 (0, 0))], [], [], rowd]) ?_ hw
      clear hw
      have hf20 : Cdisk_change_do.ok Γ16 (some ⟨g2, 0, none⟩) g1 (Cdisk_change_do.disk_Disk_Rename_1 from_ to_) := ⟨⟨(hl17 _ _ hg15), hfrom_⟩, ⟨g2, rfl, hg19, hto_⟩, trivial⟩
      obtain ⟨z21, hz22, h⟩ := bnd h
      refine e_call (is := [3]) rfl rfl (call_run Try.call28 rfl rfl (by kernel_rfl)) rfl (fun w hp => t_disk_Disk_done (hd.mono (hl13.trans hl17)) (Ac_2 := none) (cc_2 := 0) (⟨(Cdisk_change_do.disk_Disk_Rename_1 from_ to_), ByteArray.empty, []⟩ : Ddisk_change) ⟨hf20, (show (ByteArray.empty : ByteArray).size ≤ lim by decide), ⟨Nat.zero_le _, Sl.nil _ _ _⟩⟩ hp hz22) ?_
      rintro Γ23 U25 v26 hl24 ⟨row27, rfl, rfl, hr28, hr29, _⟩
      change WR _ _ _ (CC F Γ23 [row27, [(g3, .cells #[.string from_, .string to_] 9 (0, 0))], [], []]) _ _ (upd _ 22 (.int .i64 z21.2))
      refine va rfl rfl rfl (q_assign (v := .int .i64 z21.2) rfl (by kernel_rfl)) ?_
      refine WR.nil ?_
      change WC _ _ _ _ _ _
      refine WC.ret ?_
      intro w hw
      obtain rfl := Option.some.inj h
      subst hF
      exact end_e (is := [0]) (by kernel_rfl) hw rfl ⟨row27, rfl, rfl, hr28, hr29, trivial⟩
abbrev r_firthref07_Disk_Rename (gd ed : Nat) (r : Ofirthref07_Disk × Int) (U : List Rowb) (Γ : Gh) (v : Value) : Prop := ∃ (rowd' : Rowb), v = .int .i64 r.2 ∧ U = [rowd'] ∧ Ofirthref07_Disk.ob ed Γ gd rowd' r.1 ∧ I64 r.2 ∧ True
set_option maxRecDepth 100000 in
set_option maxHeartbeats 400000 in
theorem t_firthref07_Disk_Rename {Γ : Gh} {w0 : World} {gd ed : Nat} {rowd : Rowb} {d : Ofirthref07_Disk} (hd : Ofirthref07_Disk.ob ed Γ gd rowd d) (from_ : ByteArray) (hfrom_ : from_.size ≤ lim) (to_ : ByteArray) (hto_ : to_.size ≤ lim) (hp : Pre [rowd] Γ w0) {r : Ofirthref07_Disk × Int} (h : m_firthref07_Disk_Rename d from_ to_ = some r) : Calls Try.prog 39 #[.pointer (some ⟨gd, 0, none⟩), .string from_, .string to_] w0 (Outc Γ [rowd] w0 (r_firthref07_Disk_Rename gd ed r)) := by
  refine calls_of (N := 12) (rs := [6]) (args := [.pointer (some ⟨gd, 0, none⟩), .string from_, .string to_]) Try.func39 rfl Try.ntmps39 Try.results39 rfl ?_
  obtain ⟨F, hF⟩ : ∃ F : Fm, F = ⟨ids [rowd], w0, Γ⟩ := ⟨_, rfl⟩
  refine WC.here (C := CC F Γ [rowd]) ?_ (hF ▸ hp.start)
  refine WC.rs ?_
  refine va rfl rfl rfl (q_assign (v := .int .i64 0) rfl (by kernel_rfl)) ?_
  refine WR.nil ?_
  change WC _ _ _ _ _ _
  refine WC.rs ?_
  refine va rfl rfl rfl (q_move (v := .pointer (some ⟨gd, 0, none⟩)) rfl (by kernel_rfl)) ?_
  refine va rfl rfl rfl (q_move (v := .string from_) rfl (by kernel_rfl)) ?_
  refine va rfl rfl rfl (q_move (v := .string to_) rfl (by kernel_rfl)) ?_
  refine va rfl rfl rfl (q_build' (v := .agg #[.int .i64 3, .string from_, .string to_, .slice none 0 0, .int .i64 0]) rfl (bargs3 rfl rfl rfl) (fun w => by kernel_rfl)) ?_
  obtain ⟨z1, hz2, h⟩ := bnd h
  refine e_call (is := [0]) rfl rfl (call_run Try.call52 rfl rfl (by kernel_rfl)) rfl (fun w hp => t_firthref07_Disk_Do hd (Ac_3 := none) (cc_3 := 0) (⟨3, from_, to_, [], 0⟩ : Dfirthref07_Change) ⟨(show I64 3 by decide), hfrom_, hto_, ⟨Nat.zero_le _, Sl.nil _ _ _⟩, (show I64 0 by decide)⟩ hp hz2) ?_
  rintro Γ3 U5 v6 hl4 ⟨row7, rfl, rfl, hr8, hr9, _⟩
  change WR _ _ _ (CC F Γ3 [row7]) _ _ (upd _ 11 (.int .i64 z1.2))
  refine va rfl rfl rfl (q_assign (v := .int .i64 z1.2) rfl (by kernel_rfl)) ?_
  refine WR.nil ?_
  change WC _ _ _ _ _ _
  refine WC.ret ?_
  intro w hw
  obtain rfl := Option.some.inj h
  subst hF
  exact end_e (is := [0]) (by kernel_rfl) hw rfl ⟨row7, rfl, rfl, hr8, hr9, trivial⟩
end Fw
end Go.Proofs.Ytichdipjedoijaa
