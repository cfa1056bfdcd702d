/- Walks through the functions that the law reaches (printed by a program). No condition. -/
import Derived.Test.YtichdipjedoijaaM
import Derived.Test.YtichdipjedoijaaS
namespace Go.Proofs.Ytichdipjedoijaa
namespace Fw
set_option linter.unusedVariables false
set_option linter.unusedSimpArgs false
set_option linter.unusedSectionVars false
open Go.RowKit
def Odisk_Disk.ob (e : TypeId) (Γ : Gh) (g : Nat) (row : Rowb) (x : Odisk_Disk) : Prop := ∃ (m1 : Nat) (r1 : Rowb) (m2 : Nat) (r2 : Rowb) (A3 : Option Addr) (c3 : Nat) (r3 : Rowb), row = ([[(g, .cells #[.int .i64 x.room, .map (some m1), .map (some m2), .slice A3 x.loose.length c3] e (0, 0))], r1, r2, r3] : List Rowb).flatten ∧ I64 x.room ∧ MapO (strK Try.underlying9) (slT byteT).v Γ r1 m1 x.safe_ ∧ MapO (strK Try.underlying9) (slT byteT).v Γ r2 m2 x.seen ∧ Own ddisk_changeT Γ 68 r3 A3 c3 x.loose ∧ True
theorem Odisk_Disk.ob.mono {e : TypeId} {Γ Δ : Gh} {g : Nat} {row : Rowb} {x : Odisk_Disk} (h : Odisk_Disk.ob e Γ g row x) (hs : Γ.le Δ) : Odisk_Disk.ob e Δ g row x := by
  obtain ⟨m1, r1, m2, r2, A3, c3, r3, hr, h0, h1, h2, h3, _⟩ := h
  exact ⟨m1, r1, m2, r2, A3, c3, r3, hr, h0, h1.mono hs, h2.mono hs, h3.mono hs, trivial⟩
def Ofirthref07_Disk.ob (e : TypeId) (Γ : Gh) (g : Nat) (row : Rowb) (x : Ofirthref07_Disk) : Prop := ∃ (A1 : Option Addr) (c1 : Nat) (A2 : Option Addr) (c2 : Nat) (r2 : Rowb), row = ([[(g, .cells #[.int .i64 x.room, .slice A1 x.safe_.length c1, .slice A2 x.todo.length c2] e (0, 0))], r2] : List Rowb).flatten ∧ I64 x.room ∧ x.safe_.length ≤ c1 ∧ Sl dfirthref07_FileT Γ A1 x.safe_ ∧ Own dfirthref07_ChangeT Γ 83 r2 A2 c2 x.todo ∧ True
theorem Ofirthref07_Disk.ob.mono {e : TypeId} {Γ Δ : Gh} {g : Nat} {row : Rowb} {x : Ofirthref07_Disk} (h : Ofirthref07_Disk.ob e Γ g row x) (hs : Γ.le Δ) : Ofirthref07_Disk.ob e Δ g row x := by
  obtain ⟨A1, c1, A2, c2, r2, hr, h0, h1, h2, h3, _⟩ := h
  exact ⟨A1, c1, A2, c2, r2, hr, h0, h1, h2.mono hs, h3.mono hs, trivial⟩
abbrev r_disk_New (r : Odisk_Disk) (U : List Rowb) (Γ : Gh) (v : Value) : Prop := ∃ (g0 : Nat), ∃ (row0 : Rowb), v = .pointer (some ⟨g0, 0, none⟩) ∧ U = [row0] ∧ Odisk_Disk.ob 61 Γ g0 row0 r ∧ True
set_option maxRecDepth 100000 in
set_option maxHeartbeats 400000 in
theorem t_disk_New {Γ : Gh} {w0 : World} (room : Int) (hroom : I64 room) (hp : Pre [] Γ w0) {r : Odisk_Disk} (h : m_disk_New room = some r) : Calls Try.prog 10 #[.int .i64 room] w0 (Outc Γ [] w0 (r_disk_New r)) := by
  refine calls_of (N := 10) (rs := [2]) (args := [.int .i64 room]) Try.func10 rfl Try.ntmps10 Try.results10 rfl ?_
  obtain ⟨F, hF⟩ : ∃ F : Fm, F = ⟨ids [], w0, Γ⟩ := ⟨_, rfl⟩
  refine WC.here (C := CC F Γ []) ?_ (hF ▸ hp.start)
  refine WC.rs ?_
  refine va rfl rfl rfl (q_assign (v := .pointer none) rfl (by kernel_rfl)) ?_
  refine WR.nil ?_
  change WC _ _ _ _ _ _
  refine WC.rs ?_
  refine va rfl rfl rfl (q_move (v := .int .i64 room) rfl (by kernel_rfl)) ?_
  refine va rfl rfl rfl (q_max rfl rfl rfl) ?_
  refine va rfl rfl rfl (q_min rfl rfl rfl) ?_
  refine e_makeMap (strK Try.underlying9) (slT byteT).v rfl rfl rfl rfl ?_
  intro g1 row2 hm3
  refine e_makeMap (strK Try.underlying9) (slT byteT).v rfl rfl rfl rfl ?_
  intro g4 row5 hm6
  refine va rfl rfl rfl (q_build' (v := .agg #[.int .i64 (min (max room 0) 1073741824), .map (some g1), .map (some g4), .slice none 0 0]) rfl (bargs3 rfl rfl rfl) (fun w => by kernel_rfl)) ?_
  refine e_box (v := .agg #[.int .i64 (min (max room 0) 1073741824), .map (some g1), .map (some g4), .slice none 0 0]) rfl rfl rfl rfl (by kernel_rfl) ?_
  intro g7
  refine va rfl rfl rfl (q_assign (v := .pointer (some ⟨g7, 0, none⟩)) rfl (by kernel_rfl)) ?_
  refine WR.nil ?_
  change WC _ _ _ _ _ _
  refine WC.ret ?_
  intro w hw
  have hw := hw.pad
  obtain ⟨row_8, hrow_8, hob_8⟩ : ∃ rw : Rowb, rw = ([[(g7, .cells #[.int .i64 (min (max room 0) 1073741824), .map (some g1), .map (some g4), .slice none 0 0] 61 (0, 0))], row2, row5, []] : List Rowb).flatten ∧ Odisk_Disk.ob 61 Γ g7 rw (⟨(min (max room 0) 1073741824), ([] : List (ByteArray × (List UInt8))), ([] : List (ByteArray × (List UInt8))), []⟩ : Odisk_Disk) := ⟨_, rfl, g1, row2, g4, row5, none, 0, [], rfl, (min_r (max_r hroom (show I64 0 by decide)) (show I64 1073741824 by decide)), hm3, hm6, (Own.nil ddisk_changeT Γ 68), trivial⟩
  have hw := hw.fold (is := [1, 2, 1, 0]) rfl hrow_8
  obtain rfl := Option.some.inj h
  subst hF
  exact end_e (is := [0]) (by kernel_rfl) hw rfl ⟨g7, row_8, rfl, rfl, hob_8, trivial⟩
set_option maxRecDepth 100000 in
set_option maxHeartbeats 400000 in
theorem t_disk_right {Γ : Gh} {w0 : World} {Anames : Option Addr} {cnames : Nat} {names : List ByteArray} (hnames : Sl strT Γ Anames names) (hnamesc : names.length ≤ cnames) (hs : Sat Γ w0) {r : Bool} (h : m_disk_right names = some r) : Calls Try.prog 26 #[.slice Anames names.length cnames] w0 (fun e w' => e = .returned (.bool r) ∧ Fr no w0 w') := by
  refine calls_of (N := 20) (rs := [2]) (args := [.slice Anames names.length cnames]) Try.func26 rfl Try.ntmps26 Try.results26 rfl ?_
  obtain ⟨F, hF⟩ : ∃ F : Fm, F = ⟨no, w0, Γ⟩ := ⟨_, rfl⟩
  refine WC.here (C := CC F Γ []) ?_ (hF ▸ Cur.start0 hs)
  refine WC.rs ?_
  refine va rfl rfl rfl (q_assign (v := .bool false) rfl (by kernel_rfl)) ?_
  refine WR.nil ?_
  change WC _ _ _ _ _ _
  refine WC.seq ?_
  refine WC.rs ?_
  refine va rfl rfl rfl (q_move (v := .slice Anames names.length cnames) rfl (by kernel_rfl)) ?_
  refine va rfl rfl rfl (q_len_slice rfl Try.underlying33 rfl) ?_
  refine va rfl rfl rfl (q_move (v := .int .i64 0) rfl (by kernel_rfl)) ?_
  refine WR.nil ?_
  change WC _ _ _ _ _ _
  refine WC.block ?_
  refine WC.forI h (fun (i2 : Nat) (s : Unit) σ w => match s with | () => slots σ [(5, .slice Anames names.length cnames), (6, .int .i64 ((names.length : Nat) : Int)), (7, .int .i64 ((i2 : Nat) : Int))] ∧ CC F Γ [] w ∧ True) ?_ ?_
  · skip
    intro w hw
    exact ⟨(sl_ (by kernel_rfl)), hw, trivial⟩
  rintro f1 i2 ⟨⟩ σ w hi3 hlt4 hge5 ⟨hsl, hw, -⟩
  refine Wpt.slots hsl ?_
  refine WC.here (C := CC F Γ []) ?_ hw
  clear hw hsl
  refine WC.rs ?_
  refine va rfl rfl rfl (q_lss rfl rfl rfl) ?_
  refine WR.nil ?_
  change WC _ _ _ _ _ _
  refine WC.seq ?_
  refine WC.cond (b := (decide (((i2 : Nat) : Int) < ((names.length : Nat) : Int)))) (by kernel_rfl) (fun hb6 => ?_) (fun hb6 => ?_)
  · skip
    have hl7 := ilt hb6
    have h := hlt4 hl7
    refine WC.skip ?_
    change WC _ _ _ _ _ _
    refine WC.seq ?_
    refine WC.block ?_
    refine WC.rs ?_
    refine va rfl rfl rfl (q_ixn (i := i2) Try.underlying33 Try.sizeOf9 rfl rfl rfl hl7 (hnames.some_ hl7)) ?_
    refine va rfl rfl rfl (q_ld (c := 0) (v := .string (gt names i2)) (hnames.strT_at hl7).2 rfl Try.isAgg9 rfl rfl) ?_
    refine va rfl rfl rfl (q_assign (v := .string (gt names i2)) rfl (by kernel_rfl)) ?_
    refine WR.nil ?_
    change WC _ _ _ _ _ _
    refine WC.rs ?_
    refine va rfl rfl rfl (q_move (v := .string (gt names i2)) rfl (by kernel_rfl)) ?_
    refine va rfl rfl rfl (q_len_str rfl Try.underlying9 rfl) ?_
    refine va rfl rfl rfl (q_lss rfl rfl rfl) ?_
    refine va rfl rfl rfl (q_move (v := .bool (decide ((((gt names i2).size : Nat) : Int) < 1))) rfl (by kernel_rfl)) ?_
    refine vg0 rfl rfl rfl rfl rfl (fun hg8 => QV.qo (q_move (v := .string (gt names i2)) rfl (by kernel_rfl))) ?_
    refine vg0 rfl rfl rfl rfl rfl (fun hg9 => QV.qo (q_len_str rfl Try.underlying9 (gu hg9 rfl))) ?_
    refine vg0 rfl rfl rfl rfl rfl (fun hg10 => QV.qo (q_gtr rfl (gu hg10 rfl) rfl)) ?_
    refine va rfl rfl rfl (q_pick rfl rfl (pk_or' (g := (decide ((((gt names i2).size : Nat) : Int) < 1))) (y := (decide (16 < (((gt names i2).size : Nat) : Int)))))) ?_
    refine WR.nil ?_
    change WC _ _ _ _ _ _
    refine WC.cif h (by kernel_rfl) (fun hb11 h => ?_) (fun hb11 h => ?_)
    · skip
      refine WC.rs ?_
      refine va rfl rfl rfl (q_assign (v := .bool false) rfl (by kernel_rfl)) ?_
      refine WR.nil ?_
      change WC _ _ _ _ _ _
      refine WC.ret ?_
      intro w hw
      obtain rfl := Option.some.inj h
      subst hF
      exact ⟨by kernel_rfl, hw.fr⟩
    · skip
      refine WC.skip ?_
      change WC _ _ _ _ _ _
      refine WC.region ?_
      refine va rfl rfl rfl (q_add_r (r := ((i2 + 1 : Nat) : Int)) rfl rfl rfl (ctr_len hl7 hnames.le)) ?_
      refine va rfl rfl rfl (q_move (v := .int .i64 ((i2 + 1 : Nat) : Int)) rfl (by kernel_rfl)) ?_
      refine WR.nil ?_
      intro w hw
      exact ⟨hl7, (), h, (sl_ (by kernel_rfl)), hw, trivial⟩
  · skip
    have h := hge5 (ige hb6)
    refine WC.exit ?_
    change WC _ _ _ _ _ _
    refine WC.rs ?_
    refine va rfl rfl rfl (q_assign (v := .bool true) rfl (by kernel_rfl)) ?_
    refine WR.nil ?_
    change WC _ _ _ _ _ _
    refine WC.ret ?_
    intro w hw
    obtain rfl := Option.some.inj h
    subst hF
    exact ⟨by kernel_rfl, hw.fr⟩
set_option maxRecDepth 100000 in
set_option maxHeartbeats 400000 in
theorem t_disk_Disk_Used {Γ : Gh} {w0 : World} {gd ed : Nat} {rowd : Rowb} {d : Odisk_Disk} (hd : Odisk_Disk.ob ed Γ gd rowd d) (hdr : ∀ p ∈ rowd, Γ p.1 = some p.2) (hs : Sat Γ w0) {r : Int} (h : m_disk_Disk_Used d = some r) : Calls Try.prog 18 #[.pointer (some ⟨gd, 0, none⟩)] w0 (fun e w' => e = .returned (.int .i64 r) ∧ Fr no w0 w') := by
  refine calls_of (N := 20) (rs := [2]) (args := [.pointer (some ⟨gd, 0, none⟩)]) Try.func18 rfl Try.ntmps18 Try.results18 rfl ?_
  obtain ⟨F, hF⟩ : ∃ F : Fm, F = ⟨no, w0, Γ⟩ := ⟨_, rfl⟩
  refine WC.here (C := CC F Γ []) ?_ (hF ▸ Cur.start0 hs)
  refine WC.rs ?_
  refine va rfl rfl rfl (q_assign (v := .int .i64 0) rfl (by kernel_rfl)) ?_
  refine WR.nil ?_
  change WC _ _ _ _ _ _
  refine WC.rs ?_
  refine va rfl rfl rfl (q_assign (v := .int .i64 0) rfl (by kernel_rfl)) ?_
  refine WR.nil ?_
  change WC _ _ _ _ _ _
  refine WC.seq ?_
  refine WC.rs ?_
  refine va rfl rfl rfl (q_move (v := .pointer (some ⟨gd, 0, none⟩)) rfl (by kernel_rfl)) ?_
  refine va rfl rfl rfl (q_nil (A := some ⟨gd, 0, none⟩) rfl rfl rfl) ?_
  refine va rfl rfl rfl (q_fl 2 fld_61_2 rfl rfl rfl) ?_
  have hq := hd
  obtain ⟨m1_1, r1_1, m2_1, r2_1, A3_1, c3_1, r3_1, hrow_1, ho0_1, ho1_1, ho2_1, ho3_1, -⟩ := hq
  have hg_2 : ∀ u ∈ ([[(gd, .cells #[.int .i64 d.room, .map (some m1_1), .map (some m2_1), .slice A3_1 d.loose.length c3_1] ed (0, 0))], r1_1, r2_1, r3_1] : List Rowb), ∀ p ∈ u, Γ p.1 = some p.2 := fun u hu p hp => (fun p hp => (hdr p hp)) p (hrow_1 ▸ List.mem_flatten.2 ⟨u, hu, hp⟩)
  have hgc3 := hg_2 _ (List.mem_cons_self ..) (gd, _) (List.mem_singleton.2 rfl)
  have hgs4 := hg_2 r1_1 (by simp)
  have hgs5 := hg_2 r2_1 (by simp)
  have hgs6 := hg_2 r3_1 (by simp)
  have hs7 := ho3_1.sl (Gh.refl _) hgs6
  refine va rfl rfl rfl (q_ldg (v := .map (some m2_1)) hgc3 rfl Try.isAgg58 rfl rfl) ?_
  refine e_range ho2_1 (fun w hw p hp => hw.sat _ _ (hgs5 p hp)) rfl rfl rfl Try.underlying58 rfl ?_
  intro g8 row9 hi10
  change WR _ _ _ (CC F Γ [row9]) _ _ (upd _ 10 (.pointer (some ⟨g8, 0, none⟩)))
  refine WR.nil ?_
  change WC _ _ _ _ _ _
  refine WC.block ?_
  refine WC.forE h (Comm.of_tot _ (fun _ _ => rfl) (fun _ _ _ => w64_comm _ _ _)) (fun (l11 : List (ByteArray × (List UInt8))) (n_12 : Int) σ w => ∃ (row14 : Rowb), slots σ [(3, .int .i64 n_12), (10, .pointer (some ⟨g8, 0, none⟩))] ∧ CC F Γ [row14] w ∧ I64 n_12 ∧ ItO (strK Try.underlying9) (slT byteT).v Γ row14 g8 m2_1 r2_1 d.seen l11 ∧ True) ?_ ?_
  · skip
    intro w hw
    exact ⟨row9, (sl_ (by kernel_rfl)), hw, (show I64 0 by decide), hi10, trivial⟩
  rintro G21 l11 n_12 σ w hstep16 hK17 ⟨row14, hsl, hw, hr13, hi15, -⟩
  refine Wpt.slots hsl ?_
  refine WC.here (C := CC F Γ [row14]) ?_ hw
  clear hw hsl
  refine WC.rs ?_
  refine e_next (i := 0) rfl ho2_1.ks hi15 (fun w hw p hp => hw.sat _ _ (hgs5 p hp)) rfl rfl rfl rfl (fun hl22 => ?_) (fun en23 l24 v25 row26 hp27 hok28 hv29 hit30 he31 => ?_)
  · skip
    have h := hK17 hl22
    change WR _ _ _ (CC F Γ [row14]) _ _ (upd _ 11 (.tuple #[.bool false]))
    refine va rfl rfl rfl (q_extract (v := .bool false) rfl rfl rfl) ?_
    refine WR.nil ?_
    change WC _ _ _ _ _ _
    refine WC.seq ?_
    refine WC.cfk (b := false) (by kernel_rfl) rfl ?_
    refine WC.exit ?_
    change WC _ _ _ _ _ _
    refine WC.rs ?_
    refine va rfl rfl rfl (q_move (v := .int .i64 n_12) rfl (by kernel_rfl)) ?_
    refine va rfl rfl rfl (q_assign (v := .int .i64 n_12) rfl (by kernel_rfl)) ?_
    refine WR.nil ?_
    change WC _ _ _ _ _ _
    refine WC.ret ?_
    intro w hw
    obtain rfl := Option.some.inj h
    subst hF
    exact ⟨by kernel_rfl, hw.fr⟩
  · skip
    obtain ⟨hlen18, s219, h, hgo20⟩ := hstep16 en23 l24 hp27
    obtain ⟨A32, c33, hv29, hc34, hs35⟩ := hv29
    obtain rfl : v25 = _ := List.cons.inj hv29 |>.1
    change WR _ _ _ (CC F Γ [row26]) _ _ (upd _ 11 (.tuple #[.bool true, .string en23.1, .slice A32 en23.2.length c33]))
    refine va rfl rfl rfl (q_extract (v := .bool true) rfl rfl rfl) ?_
    refine WR.nil ?_
    change WC _ _ _ _ _ _
    refine WC.seq ?_
    refine WC.ctk (b := true) (by kernel_rfl) rfl ?_
    refine WC.skip ?_
    change WC _ _ _ _ _ _
    refine WC.block ?_
    refine WC.rs ?_
    refine va rfl rfl rfl (q_entry (kv := .string en23.1) (v := .slice A32 en23.2.length c33) (i := 0) rfl he31 (fun w hw p hp => hw.sat _ _ (hgs5 p hp)) rfl rfl) ?_
    refine va rfl rfl rfl (q_extract (v := .slice A32 en23.2.length c33) rfl rfl rfl) ?_
    refine va rfl rfl rfl (q_assign (v := .slice A32 en23.2.length c33) rfl (by kernel_rfl)) ?_
    refine WR.nil ?_
    change WC _ _ _ _ _ _
    refine WC.region ?_
    refine va rfl rfl rfl (q_move (v := .int .i64 n_12) rfl (by kernel_rfl)) ?_
    refine va rfl rfl rfl (q_move (v := .slice A32 en23.2.length c33) rfl (by kernel_rfl)) ?_
    refine va rfl rfl rfl (q_len_slice rfl Try.underlying22 rfl) ?_
    refine va rfl rfl rfl (q_add rfl rfl rfl) ?_
    refine va rfl rfl rfl (q_assign (v := .int .i64 (w64 (n_12 + ((en23.2.length : Nat) : Int)))) rfl (by kernel_rfl)) ?_
    refine WR.nil ?_
    intro w hw
    obtain rfl := Option.some.inj h
    exact ⟨l24, _, hlen18, hgo20, row26, (sl_ (by kernel_rfl)), hw, (w64_r _), hit30, trivial⟩
abbrev r_slices_Clone_byte_byte (r : List UInt8) (U : List Rowb) (Γ : Gh) (v : Value) : Prop := ∃ (A0 : Option Addr), ∃ (c0 : Nat), ∃ (row0 : Rowb), v = .slice A0 r.length c0 ∧ U = [row0] ∧ Own byteT Γ 5 row0 A0 c0 r ∧ True
set_option maxRecDepth 100000 in
set_option maxHeartbeats 400000 in
theorem t_slices_Clone_byte_byte {Γ : Gh} {w0 : World} {As_ : Option Addr} {cs_ : Nat} {s_ : List UInt8} (hs_ : Sl byteT Γ As_ s_) (hs_c : s_.length ≤ cs_) (hp : Pre [] Γ w0) {r : List UInt8} (h : m_slices_Clone_byte_byte s_ = some r) : Calls Try.prog 27 #[.slice As_ s_.length cs_] w0 (Outc Γ [] w0 (r_slices_Clone_byte_byte r)) := by
  refine calls_of (N := 8) (rs := [2]) (args := [.slice As_ s_.length cs_]) Try.func27 rfl Try.ntmps27 Try.results27 rfl ?_
  obtain ⟨F, hF⟩ : ∃ F : Fm, F = ⟨ids [], w0, Γ⟩ := ⟨_, rfl⟩
  refine WC.here (C := CC F Γ []) ?_ (hF ▸ hp.start)
  refine WC.rs ?_
  refine va rfl rfl rfl (q_assign (v := .slice none 0 0) rfl (by kernel_rfl)) ?_
  refine WR.nil ?_
  change WC _ _ _ _ _ _
  refine WC.seq ?_
  refine WC.rs ?_
  refine va rfl rfl rfl (q_move (v := .slice As_ s_.length cs_) rfl (by kernel_rfl)) ?_
  refine va rfl rfl rfl (q_nil_slice Try.underlying22 rfl rfl rfl) ?_
  refine WR.nil ?_
  change WC _ _ _ _ _ _
  refine WC.cnil h (by kernel_rfl) (fun hb => hs_.none_nil hb) (fun hb1 h => ?_) (fun hb1 h => ?_)
  · skip
    refine WC.rs ?_
    refine va rfl rfl rfl (q_assign (v := .slice none 0 0) rfl (by kernel_rfl)) ?_
    refine WR.nil ?_
    change WC _ _ _ _ _ _
    refine WC.ret ?_
    intro w hw
    have hw := hw.pad
    obtain rfl := Option.some.inj h
    subst hF
    exact end_e (is := [0]) (by kernel_rfl) hw rfl ⟨none, 0, [], rfl, rfl, (Own.nil byteT _ 5), trivial⟩
  · skip
    refine WC.skip ?_
    change WC _ _ _ _ _ _
    refine WC.rs ?_
    refine e_buildSlice (cs := #[]) (e := 5) rfl rfl rfl rfl (fun w => by kernel_rfl) ?_
    intro g2
    refine va rfl rfl rfl (q_move (v := .slice As_ s_.length cs_) rfl (by kernel_rfl)) ?_
    have ho3 : Own byteT Γ 5 [(g2, .cells #[] 5 (0, 0))] (some ⟨g2, 0, none⟩) 0 ([] : List UInt8) := Own.of_block (T := byteT) (ys := ([] : List UInt8)) [] rfl rfl (show 0 ≤ lim by decide) (fun i h => absurd h (by simp))
    obtain ⟨hk4, h⟩ := chk_some h
    refine e_append (T := byteT) (xs := ([] : List UInt8)) (ys := s_) elem_22 (i := 0) rfl rfl rfl rfl rfl rfl rfl ho3 (of_decide_eq_true hk4) (fun w hw => src_sl hs_ hw) ?_
    intro row5 A6 c7 ho8
    refine va rfl rfl rfl (q_assign (v := .slice A6 (([] : List UInt8) ++ s_).length c7) rfl (by kernel_rfl)) ?_
    refine WR.nil ?_
    change WC _ _ _ _ _ _
    refine WC.ret ?_
    intro w hw
    obtain rfl := Option.some.inj h
    subst hF
    exact end_e (is := [0]) (by kernel_rfl) hw rfl ⟨A6, c7, row5, rfl, rfl, ho8, trivial⟩
abbrev r_disk_add (r : Cdisk_change_do) (U : List Rowb) (Γ : Gh) (v : Value) : Prop := ∃ (A0 : Option Addr), ∃ (c0 : Nat), v = (Cdisk_change_do.val r A0 c0) ∧ U = [] ∧ Cdisk_change_do.ok Γ A0 c0 r ∧ True
set_option maxRecDepth 100000 in
set_option maxHeartbeats 400000 in
theorem t_disk_add {Γ : Gh} {w0 : World} (name : ByteArray) (hname : name.size ≤ lim) {Ab : Option Addr} {cb : Nat} {b : List UInt8} (hb : Sl byteT Γ Ab b) (hbc : b.length ≤ cb) (hp : Pre [] Γ w0) {r : Cdisk_change_do} (h : m_disk_add name b = some r) : Calls Try.prog 29 #[.string name, .slice Ab b.length cb] w0 (Outc Γ [] w0 (r_disk_add r)) := by
  refine calls_of (N := 6) (rs := [4]) (args := [.string name, .slice Ab b.length cb]) Try.func29 rfl Try.ntmps29 Try.results29 rfl ?_
  obtain ⟨F, hF⟩ : ∃ F : Fm, F = ⟨ids [], w0, Γ⟩ := ⟨_, rfl⟩
  refine WC.here (C := CC F Γ []) ?_ (hF ▸ hp.start)
  refine WC.rs ?_
  refine e_box (v := .string name) rfl rfl rfl rfl (by kernel_rfl) ?_
  intro g1
  refine e_box (v := .slice Ab b.length cb) rfl rfl rfl rfl (by kernel_rfl) ?_
  intro g2
  refine va rfl rfl rfl (q_assign (v := .nilFunc) rfl (by kernel_rfl)) ?_
  refine WR.nil ?_
  change WC _ _ _ _ _ _
  refine WC.rs ?_
  refine va rfl rfl rfl (q_mkfn (v := .func (.func 46) #[] #[.pointer (some ⟨g1, 0, none⟩), .pointer (some ⟨g2, 0, none⟩)]) rfl (by kernel_rfl)) ?_
  refine va rfl rfl rfl (q_assign (v := .func (.func 46) #[] #[.pointer (some ⟨g1, 0, none⟩), .pointer (some ⟨g2, 0, none⟩)]) rfl (by kernel_rfl)) ?_
  refine WR.nil ?_
  change WC _ _ _ _ _ _
  refine WC.ret ?_
  intro w hw
  obtain ⟨Γ3, hw, hl4, hr5⟩ := hw.seal (i := 1) rfl
  have hg6 := hr5 _ (List.mem_singleton.2 rfl)
  obtain ⟨Γ7, hw, hl8, hr9⟩ := hw.seal (i := 0) rfl
  have hg10 := hr9 _ (List.mem_singleton.2 rfl)
  have hf11 : Cdisk_change_do.ok Γ7 (some ⟨g2, 0, none⟩) g1 (Cdisk_change_do.disk_add_1 name b) := ⟨⟨(hl8 _ _ hg6), hname⟩, ⟨g2, Ab, cb, rfl, hg10, hbc, (hb.mono (hl4.trans hl8))⟩, trivial⟩
  obtain rfl := Option.some.inj h
  subst hF
  exact end_e (is := []) (by kernel_rfl) hw rfl ⟨(some ⟨g2, 0, none⟩), g1, rfl, rfl, hf11, trivial⟩
abbrev r_disk_Disk_Rename_1 (mf_ : Nat) (r : List (ByteArray × (List UInt8))) (U : List Rowb) (Γ : Gh) (v : Value) : Prop := ∃ (rowf_' : Rowb), v = .tuple #[] ∧ U = [rowf_'] ∧ MapO (strK Try.underlying9) (slT byteT).v Γ rowf_' mf_ r ∧ True
set_option maxRecDepth 100000 in
set_option maxHeartbeats 400000 in
theorem t_disk_Disk_Rename_1 {Γ : Gh} {w0 : World} {mf_ : Nat} {rowf_ : Rowb} {f_ : List (ByteArray × (List UInt8))} (hf_ : MapO (strK Try.underlying9) (slT byteT).v Γ rowf_ mf_ f_) {gb0 : Nat} (b0 : ByteArray) (hb0_0 : Γ gb0 = some (.cells #[.string b0] 9 (0, 0))) (hb0_1 : b0.size ≤ lim) {gb1 : Nat} (b1 : ByteArray) (hb1_0 : Γ gb1 = some (.cells #[.string b1] 9 (0, 0))) (hb1_1 : b1.size ≤ lim) (hp : Pre [rowf_] Γ w0) {r : List (ByteArray × (List UInt8))} (h : m_disk_Disk_Rename_1 f_ b0 b1 = some r) : Calls Try.prog 32 #[.map (some mf_), .pointer (some ⟨gb0, 0, none⟩), .pointer (some ⟨gb1, 0, none⟩)] w0 (Outc Γ [rowf_] w0 (r_disk_Disk_Rename_1 mf_ r)) := by
  refine calls_of (N := 13) (rs := []) (args := [.map (some mf_), .pointer (some ⟨gb0, 0, none⟩), .pointer (some ⟨gb1, 0, none⟩)]) Try.func32 rfl Try.ntmps32 Try.results32 rfl ?_
  obtain ⟨F, hF⟩ : ∃ F : Fm, F = ⟨ids [rowf_], w0, Γ⟩ := ⟨_, rfl⟩
  refine WC.here (C := CC F Γ [rowf_]) ?_ (hF ▸ hp.start)
  refine WC.rs ?_
  refine va rfl rfl rfl (q_move (v := .map (some mf_)) rfl (by kernel_rfl)) ?_
  refine va rfl rfl rfl (q_ldg (v := .string b0) hb0_0 rfl Try.isAgg9 rfl rfl) ?_
  obtain ⟨v1, ⟨A4, c5, hv2, hc6, hs7⟩, hat3⟩ := MapO.look hf_ b0 (z := .slice none 0 0) (zx := []) ⟨none, 0, rfl, Nat.zero_le _, Sl.nil _ _ _⟩
  obtain rfl : v1 = _ := List.cons.inj hv2 |>.1
  refine va rfl rfl rfl (q_lookup1 (v := .slice A4 ((mget b0 f_).getD []).length c5) hat3 rfl Try.underlying58 Try.zeroValue22 rfl rfl (i := 0) rfl) ?_
  refine va rfl rfl rfl (q_assign (v := .slice A4 ((mget b0 f_).getD []).length c5) rfl (by kernel_rfl)) ?_
  refine WR.nil ?_
  change WC _ _ _ _ _ _
  refine WC.rs ?_
  refine va rfl rfl rfl (q_move (v := .map (some mf_)) rfl (by kernel_rfl)) ?_
  refine va rfl rfl rfl (q_ldg (v := .string b0) hb0_0 rfl Try.isAgg9 rfl rfl) ?_
  refine e_delete (i := 0) (x := b0) rfl hf_ rfl rfl rfl Try.underlying58 rfl rfl ?_
  intro row8 hm9
  refine WR.nil ?_
  change WC _ _ _ _ _ _
  refine WC.region ?_
  refine va rfl rfl rfl (q_move (v := .map (some mf_)) rfl (by kernel_rfl)) ?_
  refine va rfl rfl rfl (q_ldg (v := .string b1) hb1_0 rfl Try.isAgg9 rfl rfl) ?_
  refine va rfl rfl rfl (q_move (v := .slice A4 ((mget b0 f_).getD []).length c5) rfl (by kernel_rfl)) ?_
  refine e_mapUpdate (i := 0) (x := b1) (v := .slice A4 ((mget b0 f_).getD []).length c5) (a := ((mget b0 f_).getD [])) rfl rfl rfl Try.underlying58 rfl rfl (by kernel_rfl) rfl hm9 (by exact ⟨A4, c5, rfl, hc6, hs7⟩) hb1_1 ?_
  intro row10 hm11
  refine WR.nil ?_
  intro w hw
  obtain rfl := Option.some.inj h
  subst hF
  exact end_e (is := [0]) (by kernel_rfl) hw rfl ⟨row10, rfl, rfl, hm11, trivial⟩
abbrev r_disk_Disk_Remove_1 (mf_ : Nat) (r : List (ByteArray × (List UInt8))) (U : List Rowb) (Γ : Gh) (v : Value) : Prop := ∃ (rowf_' : Rowb), v = .tuple #[] ∧ U = [rowf_'] ∧ MapO (strK Try.underlying9) (slT byteT).v Γ rowf_' mf_ r ∧ True
set_option maxRecDepth 100000 in
set_option maxHeartbeats 400000 in
theorem t_disk_Disk_Remove_1 {Γ : Gh} {w0 : World} {mf_ : Nat} {rowf_ : Rowb} {f_ : List (ByteArray × (List UInt8))} (hf_ : MapO (strK Try.underlying9) (slT byteT).v Γ rowf_ mf_ f_) {gb0 : Nat} (b0 : ByteArray) (hb0_0 : Γ gb0 = some (.cells #[.string b0] 9 (0, 0))) (hb0_1 : b0.size ≤ lim) (hp : Pre [rowf_] Γ w0) {r : List (ByteArray × (List UInt8))} (h : m_disk_Disk_Remove_1 f_ b0 = some r) : Calls Try.prog 35 #[.map (some mf_), .pointer (some ⟨gb0, 0, none⟩)] w0 (Outc Γ [rowf_] w0 (r_disk_Disk_Remove_1 mf_ r)) := by
  refine calls_of (N := 5) (rs := []) (args := [.map (some mf_), .pointer (some ⟨gb0, 0, none⟩)]) Try.func35 rfl Try.ntmps35 Try.results35 rfl ?_
  obtain ⟨F, hF⟩ : ∃ F : Fm, F = ⟨ids [rowf_], w0, Γ⟩ := ⟨_, rfl⟩
  refine WC.here (C := CC F Γ [rowf_]) ?_ (hF ▸ hp.start)
  refine WC.region ?_
  refine va rfl rfl rfl (q_move (v := .map (some mf_)) rfl (by kernel_rfl)) ?_
  refine va rfl rfl rfl (q_ldg (v := .string b0) hb0_0 rfl Try.isAgg9 rfl rfl) ?_
  refine e_delete (i := 0) (x := b0) rfl hf_ rfl rfl rfl Try.underlying58 rfl rfl ?_
  intro row1 hm2
  refine WR.nil ?_
  intro w hw
  obtain rfl := Option.some.inj h
  subst hF
  exact end_e (is := [0]) (by kernel_rfl) hw rfl ⟨row1, rfl, rfl, hm2, trivial⟩
set_option maxRecDepth 100000 in
set_option maxHeartbeats 400000 in
theorem t_slices_Clip_byte_byte {Γ : Gh} {w0 : World} {As_ : Option Addr} {cs_ : Nat} {s_ : List UInt8} (hs_ : Sl byteT Γ As_ s_) (hs_c : s_.length ≤ cs_) (hs : Sat Γ w0) {r : List UInt8} (h : m_slices_Clip_byte_byte s_ = some r) : Calls Try.prog 47 #[.slice As_ s_.length cs_] w0 (fun e w' => e = .returned (.slice As_ s_.length s_.length) ∧ Fr no w0 w') := by
  refine calls_of (N := 9) (rs := [2]) (args := [.slice As_ s_.length cs_]) Try.func47 rfl Try.ntmps47 Try.results47 rfl ?_
  obtain ⟨F, hF⟩ : ∃ F : Fm, F = ⟨no, w0, Γ⟩ := ⟨_, rfl⟩
  refine WC.here (C := CC F Γ []) ?_ (hF ▸ Cur.start0 hs)
  refine WC.rs ?_
  refine va rfl rfl rfl (q_assign (v := .slice none 0 0) rfl (by kernel_rfl)) ?_
  refine WR.nil ?_
  change WC _ _ _ _ _ _
  refine WC.rs ?_
  refine va rfl rfl rfl (q_move (v := .slice As_ s_.length cs_) rfl (by kernel_rfl)) ?_
  refine va rfl rfl rfl (q_move (v := .slice As_ s_.length cs_) rfl (by kernel_rfl)) ?_
  refine va rfl rfl rfl (q_len_slice rfl Try.underlying22 rfl) ?_
  refine va rfl rfl rfl (q_move (v := .slice As_ s_.length cs_) rfl (by kernel_rfl)) ?_
  refine va rfl rfl rfl (q_len_slice rfl Try.underlying22 rfl) ?_
  refine va rfl rfl rfl (q_clip (T := byteT) (xs := s_) Try.underlying22 Try.sizeOf5 rfl rfl rfl rfl hs_c) ?_
  refine va rfl rfl rfl (q_assign (v := .slice As_ s_.length s_.length) rfl (by kernel_rfl)) ?_
  refine WR.nil ?_
  change WC _ _ _ _ _ _
  refine WC.ret ?_
  intro w hw
  obtain rfl := Option.some.inj h
  subst hF
  exact ⟨by kernel_rfl, hw.fr⟩
abbrev r_disk_add_1 (mf_ : Nat) (r : List (ByteArray × (List UInt8))) (U : List Rowb) (Γ : Gh) (v : Value) : Prop := ∃ (rowf_' : Rowb), v = .tuple #[] ∧ U = [rowf_'] ∧ MapO (strK Try.underlying9) (slT byteT).v Γ rowf_' mf_ r ∧ True
set_option maxRecDepth 100000 in
set_option maxHeartbeats 400000 in
theorem t_disk_add_1 {Γ : Gh} {w0 : World} {mf_ : Nat} {rowf_ : Rowb} {f_ : List (ByteArray × (List UInt8))} (hf_ : MapO (strK Try.underlying9) (slT byteT).v Γ rowf_ mf_ f_) {gb0 : Nat} (b0 : ByteArray) (hb0_0 : Γ gb0 = some (.cells #[.string b0] 9 (0, 0))) (hb0_1 : b0.size ≤ lim) {gb1 : Nat} {Ab1_0 : Option Addr} {cb1_0 : Nat} (b1 : (List UInt8)) (hb1_0 : Γ gb1 = some (.cells #[.slice Ab1_0 b1.length cb1_0] 22 (0, 0))) (hb1_1 : b1.length ≤ cb1_0) (hb1_2 : Sl byteT Γ Ab1_0 b1) (hp : Pre [rowf_] Γ w0) {r : List (ByteArray × (List UInt8))} (h : m_disk_add_1 f_ b0 b1 = some r) : Calls Try.prog 46 #[.map (some mf_), .pointer (some ⟨gb0, 0, none⟩), .pointer (some ⟨gb1, 0, none⟩)] w0 (Outc Γ [rowf_] w0 (r_disk_add_1 mf_ r)) := by
  refine calls_of (N := 12) (rs := []) (args := [.map (some mf_), .pointer (some ⟨gb0, 0, none⟩), .pointer (some ⟨gb1, 0, none⟩)]) Try.func46 rfl Try.ntmps46 Try.results46 rfl ?_
  obtain ⟨F, hF⟩ : ∃ F : Fm, F = ⟨ids [rowf_], w0, Γ⟩ := ⟨_, rfl⟩
  refine WC.here (C := CC F Γ [rowf_]) ?_ (hF ▸ hp.start)
  intro w hw; have h01 := hw.le
  refine WC.here (C := CC F Γ [rowf_]) ?_ hw; clear hw
  refine WC.held (CC F Γ []) (by kernel_rfl) (fun w hw => hw.drawn _) ?_
  change WH _ _ _ _ (CC F Γ [rowf_]) _ 9 #[false, false, false, false, false, false, false, false, false] _
  refine ht (i := 0) rfl (by kernel_rfl) rfl rfl rfl (fun w hw => hw.back (Gh.refl _) h01 (.cons _ .slnil)) (q_move (v := .map (some mf_)) rfl (by kernel_rfl)) ?_
  refine ht (i := 1) rfl (by kernel_rfl) rfl rfl rfl (fun w hw => hw.back (Gh.refl _) h01 (.cons _ .slnil)) (q_ldg (v := .string b0) hb0_0 rfl Try.isAgg9 rfl rfl) ?_
  refine ht (i := 2) rfl (by kernel_rfl) rfl rfl rfl (fun w hw => hw.back (Gh.refl _) h01 (.cons _ .slnil)) (q_move (v := .map (some mf_)) rfl (by kernel_rfl)) ?_
  refine ht (i := 3) rfl (by kernel_rfl) rfl rfl rfl (fun w hw => hw.back (Gh.refl _) h01 (.cons _ .slnil)) (q_ldg (v := .string b0) hb0_0 rfl Try.isAgg9 rfl rfl) ?_
  refine ht (i := 6) rfl (by kernel_rfl) rfl rfl rfl (fun w hw => hw.back (Gh.refl _) h01 (.cons _ .slnil)) (q_ldg (v := .slice Ab1_0 b1.length cb1_0) hb1_0 rfl Try.isAgg22 rfl rfl) ?_
  refine WH.lone (i := 4) (by kernel_rfl) rfl ?_
  obtain ⟨v2, ⟨A5, c6, hv3, hc7, hs8⟩, hat4⟩ := MapO.look hf_ b0 (z := .slice none 0 0) (zx := []) ⟨none, 0, rfl, Nat.zero_le _, Sl.nil _ _ _⟩
  obtain rfl : v2 = _ := List.cons.inj hv3 |>.1
  refine va rfl rfl rfl (q_lookup1 (v := .slice A5 ((mget b0 f_).getD []).length c6) hat4 rfl Try.underlying58 Try.zeroValue22 rfl rfl (i := 0) rfl) ?_
  refine WR.nil ?_
  refine WH.next (fun w hw => hw.back (Gh.refl _) h01 (.cons _ .slnil)) ?_
  refine WH.lone (i := 5) (by kernel_rfl) rfl ?_
  obtain ⟨z9, hz10, h⟩ := bnd h
  refine vc rfl rfl rfl (q_call (call_run Try.call47 rfl rfl (by kernel_rfl)) (fun w hw => t_slices_Clip_byte_byte (Γ := Gh.all w) (hs8.mono hw.sat.le_all) hc7 (Sat.all w) hz10)) ?_
  refine WR.nil ?_
  refine WH.next (fun w hw => hw.back (Gh.refl _) h01 (.cons _ .slnil)) ?_
  refine WH.lone (i := 7) (by kernel_rfl) rfl ?_
  obtain ⟨hk11, h⟩ := chk_some h
  refine e_append_clip (T := byteT) (xs := ((mget b0 f_).getD [])) (ys := b1) elem_22 rfl rfl rfl rfl rfl rfl hs8 (of_decide_eq_true hk11) (fun w hw => src_sl hb1_2 hw) ?_
  intro Γ12 A13 c14 hl15 hs16 hc17
  refine WR.nil ?_
  refine WH.next (fun w hw => hw.back hl15 h01 (.cons _ (.cons _ .slnil))) ?_
  refine WH.lone (i := 8) (by kernel_rfl) rfl ?_
  refine e_mapUpdate (i := 1) (x := b0) (v := .slice A13 (((mget b0 f_).getD []) ++ b1).length c14) (a := (((mget b0 f_).getD []) ++ b1)) rfl rfl rfl Try.underlying58 rfl rfl (by kernel_rfl) rfl (hf_.mono hl15) (by exact ⟨A13, c14, rfl, hc17, hs16⟩) hb0_1 ?_
  intro row18 hm19
  refine WR.nil ?_
  refine WH.next (fun w hw => hw.back hl15 h01 (.cons _ (.cons _ .slnil))) ?_
  refine WH.done (by kernel_rfl) ?_
  intro w hw
  obtain rfl := Option.some.inj h
  subst hF
  exact end_e (is := [1]) (by kernel_rfl) hw rfl ⟨row18, rfl, rfl, hm19, trivial⟩
abbrev r_disk_Disk_Cut_1 (mf_ : Nat) (r : List (ByteArray × (List UInt8))) (U : List Rowb) (Γ : Gh) (v : Value) : Prop := ∃ (rowf_' : Rowb), v = .tuple #[] ∧ U = [rowf_'] ∧ MapO (strK Try.underlying9) (slT byteT).v Γ rowf_' mf_ r ∧ True
set_option maxRecDepth 100000 in
set_option maxHeartbeats 400000 in
theorem t_disk_Disk_Cut_1 {Γ : Gh} {w0 : World} {mf_ : Nat} {rowf_ : Rowb} {f_ : List (ByteArray × (List UInt8))} (hf_ : MapO (strK Try.underlying9) (slT byteT).v Γ rowf_ mf_ f_) {gb0 : Nat} (b0 : ByteArray) (hb0_0 : Γ gb0 = some (.cells #[.string b0] 9 (0, 0))) (hb0_1 : b0.size ≤ lim) {gb1 : Nat} (b1 : Int) (hb1_0 : Γ gb1 = some (.cells #[.int .i64 b1] 3 (0, 0))) (hb1_1 : I64 b1) (hp : Pre [rowf_] Γ w0) {r : List (ByteArray × (List UInt8))} (h : m_disk_Disk_Cut_1 f_ b0 b1 = some r) : Calls Try.prog 53 #[.map (some mf_), .pointer (some ⟨gb0, 0, none⟩), .pointer (some ⟨gb1, 0, none⟩)] w0 (Outc Γ [rowf_] w0 (r_disk_Disk_Cut_1 mf_ r)) := by
  refine calls_of (N := 11) (rs := []) (args := [.map (some mf_), .pointer (some ⟨gb0, 0, none⟩), .pointer (some ⟨gb1, 0, none⟩)]) Try.func53 rfl Try.ntmps53 Try.results53 rfl ?_
  obtain ⟨F, hF⟩ : ∃ F : Fm, F = ⟨ids [rowf_], w0, Γ⟩ := ⟨_, rfl⟩
  refine WC.here (C := CC F Γ [rowf_]) ?_ (hF ▸ hp.start)
  intro w hw; have h01 := hw.le
  refine WC.here (C := CC F Γ [rowf_]) ?_ hw; clear hw
  refine WC.held (CC F Γ []) (by kernel_rfl) (fun w hw => hw.drawn _) ?_
  change WH _ _ _ _ (CC F Γ [rowf_]) _ 8 #[false, false, false, false, false, false, false, false] _
  refine ht (i := 0) rfl (by kernel_rfl) rfl rfl rfl (fun w hw => hw.back (Gh.refl _) h01 (.cons _ .slnil)) (q_move (v := .map (some mf_)) rfl (by kernel_rfl)) ?_
  refine ht (i := 1) rfl (by kernel_rfl) rfl rfl rfl (fun w hw => hw.back (Gh.refl _) h01 (.cons _ .slnil)) (q_ldg (v := .string b0) hb0_0 rfl Try.isAgg9 rfl rfl) ?_
  refine ht (i := 2) rfl (by kernel_rfl) rfl rfl rfl (fun w hw => hw.back (Gh.refl _) h01 (.cons _ .slnil)) (q_move (v := .map (some mf_)) rfl (by kernel_rfl)) ?_
  refine ht (i := 3) rfl (by kernel_rfl) rfl rfl rfl (fun w hw => hw.back (Gh.refl _) h01 (.cons _ .slnil)) (q_ldg (v := .string b0) hb0_0 rfl Try.isAgg9 rfl rfl) ?_
  refine ht (i := 5) rfl (by kernel_rfl) rfl rfl rfl (fun w hw => hw.back (Gh.refl _) h01 (.cons _ .slnil)) (q_ldg (v := .int .i64 b1) hb1_0 rfl Try.isAgg3 rfl rfl) ?_
  refine WH.lone (i := 4) (by kernel_rfl) rfl ?_
  obtain ⟨v2, ⟨A5, c6, hv3, hc7, hs8⟩, hat4⟩ := MapO.look hf_ b0 (z := .slice none 0 0) (zx := []) ⟨none, 0, rfl, Nat.zero_le _, Sl.nil _ _ _⟩
  obtain rfl : v2 = _ := List.cons.inj hv3 |>.1
  refine va rfl rfl rfl (q_lookup1 (v := .slice A5 ((mget b0 f_).getD []).length c6) hat4 rfl Try.underlying58 Try.zeroValue22 rfl rfl (i := 0) rfl) ?_
  refine WR.nil ?_
  refine WH.next (fun w hw => hw.back (Gh.refl _) h01 (.cons _ .slnil)) ?_
  obtain ⟨hk9, h⟩ := chk_some h
  refine ht (i := 6) rfl (by kernel_rfl) rfl rfl rfl (fun w hw => hw.back (Gh.refl _) h01 (.cons _ .slnil)) (q_cut_to (c := c6) (hi := b1.toNat) (xs := ((mget b0 f_).getD [])) Try.underlying22 Try.sizeOf5 rfl rfl (inle_eq rfl hk9) (inle_le hk9) hc7) ?_
  refine WH.lone (i := 7) (by kernel_rfl) rfl ?_
  refine e_mapUpdate (i := 0) (x := b0) (v := .slice A5 (List.take b1.toNat ((mget b0 f_).getD [])).length c6) (a := (List.take b1.toNat ((mget b0 f_).getD []))) rfl rfl rfl Try.underlying58 rfl rfl (by kernel_rfl) rfl hf_ (by exact ⟨A5, c6, rfl, (take_cap hc7 b1.toNat), (hs8.cut_to (hi := b1.toNat) (inle_le hk9))⟩) hb0_1 ?_
  intro row10 hm11
  refine WR.nil ?_
  refine WH.next (fun w hw => hw.back (Gh.refl _) h01 (.cons _ .slnil)) ?_
  refine WH.done (by kernel_rfl) ?_
  intro w hw
  obtain rfl := Option.some.inj h
  subst hF
  exact end_e (is := [0]) (by kernel_rfl) hw rfl ⟨row10, rfl, rfl, hm11, trivial⟩
theorem t_call_Cdisk_change_do {Γ : Gh} {x : Cdisk_change_do} {A : Option Addr} {c : Nat} (hx : Cdisk_change_do.ok Γ A c x) {mf_ : Nat} {rowf_ : Rowb} {f_ : List (ByteArray × (List UInt8))} (hf_ : MapO (strK Try.underlying9) (slT byteT).v Γ rowf_ mf_ f_) {r : List (ByteArray × (List UInt8))} (h : m_call_Cdisk_change_do x f_ = some r) : ∃ fd caps, Cdisk_change_do.val x A c = .func (.func fd) #[] caps ∧ (∀ (args : Array Value) (w : World), (callFunc fd args).run Try.prog w = .ok (.enter fd args) w) ∧ ∀ w0, Pre [rowf_] Γ w0 → Calls Try.prog fd (#[.map (some mf_)] ++ caps) w0 (Outc Γ [rowf_] w0 (r_disk_Disk_Rename_1 mf_ r)) := by
  cases x with
  | disk_Disk_Rename_1 a0 a1 =>
    obtain ⟨⟨h0_0, h0_1⟩, ⟨g1, rfl, h1_0, h1_1⟩, -⟩ := hx
    exact ⟨_, _, rfl, Try.call32, fun w0 hp => t_disk_Disk_Rename_1 hf_ a0 h0_0 h0_1 a1 h1_0 h1_1 hp h⟩
  | disk_Disk_Remove_1 a0 =>
    obtain ⟨⟨h0_0, h0_1⟩, -⟩ := hx
    exact ⟨_, _, rfl, Try.call35, fun w0 hp => t_disk_Disk_Remove_1 hf_ a0 h0_0 h0_1 hp h⟩
  | disk_add_1 a0 a1 =>
    obtain ⟨⟨h0_0, h0_1⟩, ⟨g1, A1_0, c1_0, rfl, h1_0, h1_1, h1_2⟩, -⟩ := hx
    exact ⟨_, _, rfl, Try.call46, fun w0 hp => t_disk_add_1 hf_ a0 h0_0 h0_1 a1 h1_0 h1_1 h1_2 hp h⟩
  | disk_Disk_Cut_1 a0 a1 =>
    obtain ⟨⟨h0_0, h0_1⟩, ⟨g1, rfl, h1_0, h1_1⟩, -⟩ := hx
    exact ⟨_, _, rfl, Try.call53, fun w0 hp => t_disk_Disk_Cut_1 hf_ a0 h0_0 h0_1 a1 h1_0 h1_1 hp h⟩
abbrev r_disk_Disk_done (gd ed : Nat) (r : Odisk_Disk × Int) (U : List Rowb) (Γ : Gh) (v : Value) : Prop := ∃ (rowd' : Rowb), v = .int .i64 r.2 ∧ U = [rowd'] ∧ Odisk_Disk.ob ed Γ gd rowd' r.1 ∧ I64 r.2 ∧ True
set_option maxRecDepth 100000 in
set_option maxHeartbeats 400000 in
theorem t_disk_Disk_done {Γ : Gh} {w0 : World} {gd ed : Nat} {rowd : Rowb} {d : Odisk_Disk} (hd : Odisk_Disk.ob ed Γ gd rowd d) {Ac_0 : Option Addr} {cc_0 : Nat} {Ac_2 : Option Addr} {cc_2 : Nat} (c_ : Ddisk_change) (hc_ : Ddisk_change.fits Γ Ac_0 cc_0 Ac_2 cc_2 c_) (hp : Pre [rowd] Γ w0) {r : Odisk_Disk × Int} (h : m_disk_Disk_done d c_ = some r) : Calls Try.prog 28 #[.pointer (some ⟨gd, 0, none⟩), .agg #[(Cdisk_change_do.val c_.do_ Ac_0 cc_0), .string c_.name, .slice Ac_2 c_.tail.length cc_2]] w0 (Outc Γ [rowd] w0 (r_disk_Disk_done gd ed r)) := by
  refine calls_of (N := 22) (rs := [4]) (args := [.pointer (some ⟨gd, 0, none⟩), .agg #[(Cdisk_change_do.val c_.do_ Ac_0 cc_0), .string c_.name, .slice Ac_2 c_.tail.length cc_2]]) Try.func28 rfl Try.ntmps28 Try.results28 rfl ?_
  obtain ⟨F, hF⟩ : ∃ F : Fm, F = ⟨ids [rowd], w0, Γ⟩ := ⟨_, rfl⟩
  refine WC.here (C := CC F Γ [rowd]) ?_ (hF ▸ hp.start)
  refine WC.rs ?_
  refine e_box (v := .agg #[(Cdisk_change_do.val c_.do_ Ac_0 cc_0), .string c_.name, .slice Ac_2 c_.tail.length cc_2]) rfl rfl rfl rfl (by kernel_rfl) ?_
  intro g1
  refine va rfl rfl rfl (q_assign (v := .int .i64 0) rfl (by kernel_rfl)) ?_
  refine WR.nil ?_
  change WC _ _ _ _ _ _
  refine WC.seq ?_
  intro w hw; have h02 := hw.le
  refine WC.here (C := CC F Γ [[(g1, .cells #[(Cdisk_change_do.val c_.do_ Ac_0 cc_0), .string c_.name, .slice Ac_2 c_.tail.length cc_2] 68 (0, 0))], rowd]) ?_ hw; clear hw
  refine WC.held (CC F Γ [[(g1, .cells #[(Cdisk_change_do.val c_.do_ Ac_0 cc_0), .string c_.name, .slice Ac_2 c_.tail.length cc_2] 68 (0, 0))]]) (by kernel_rfl) (fun w hw => hw.drawn _) ?_
  change WH _ _ _ _ (CC F Γ [[(g1, .cells #[(Cdisk_change_do.val c_.do_ Ac_0 cc_0), .string c_.name, .slice Ac_2 c_.tail.length cc_2] 68 (0, 0))], rowd]) _ 7 #[false, false, false, false, false, false, false] _
  refine ht (i := 0) rfl (by kernel_rfl) rfl rfl rfl (fun w hw => hw.back (Gh.refl _) h02 (.cons_cons _ (.cons _ .slnil))) (q_fl 0 fld_68_0 rfl rfl rfl) ?_
  refine ht (i := 1) rfl (by kernel_rfl) rfl rfl rfl (fun w hw => hw.back (Gh.refl _) h02 (.cons_cons _ (.cons _ .slnil))) (q_ldl (i := 0) (v := (Cdisk_change_do.val c_.do_ Ac_0 cc_0)) rfl rfl Try.isAgg65 rfl rfl) ?_
  refine ht (i := 2) rfl (by kernel_rfl) rfl rfl rfl (fun w hw => hw.back (Gh.refl _) h02 (.cons_cons _ (.cons _ .slnil))) (q_move (v := .pointer (some ⟨gd, 0, none⟩)) rfl (by kernel_rfl)) ?_
  refine ht (i := 3) rfl (by kernel_rfl) rfl rfl rfl (fun w hw => hw.back (Gh.refl _) h02 (.cons_cons _ (.cons _ .slnil))) (q_nil (A := some ⟨gd, 0, none⟩) rfl rfl rfl) ?_
  refine ht (i := 4) rfl (by kernel_rfl) rfl rfl rfl (fun w hw => hw.back (Gh.refl _) h02 (.cons_cons _ (.cons _ .slnil))) (q_fl 2 fld_61_2 rfl rfl rfl) ?_
  refine WH.lone (i := 5) (by kernel_rfl) rfl ?_
  have hq := hd
  obtain ⟨m1_3, r1_3, m2_3, r2_3, A3_3, c3_3, r3_3, hrow_3, ho0_3, ho1_3, ho2_3, ho3_3, -⟩ := hq
  intro w hw; have hw := hw.unfold (i := 1) rfl hrow_3
  refine WR.here (C := CC F Γ [[(gd, .cells #[.int .i64 d.room, .map (some m1_3), .map (some m2_3), .slice A3_3 d.loose.length c3_3] ed (0, 0))], r1_3, r2_3, r3_3, [(g1, .cells #[(Cdisk_change_do.val c_.do_ Ac_0 cc_0), .string c_.name, .slice Ac_2 c_.tail.length cc_2] 68 (0, 0))]]) ?_ hw
  clear hw
  refine va rfl rfl rfl (q_ldl (i := 0) (v := .map (some m2_3)) rfl rfl Try.isAgg58 rfl rfl) ?_
  refine WR.nil ?_
  refine WH.next (fun w hw => hw.back (Gh.refl _) h02 (.cons _ (.cons _ (.cons _ (.cons _ (.cons_cons _ .slnil)))))) ?_
  refine WH.lone (i := 6) (by kernel_rfl) rfl ?_
  obtain ⟨z4, hz5, h⟩ := bnd h
  obtain ⟨fd6, cp7, hv8, he9, hcl10⟩ := t_call_Cdisk_change_do (x := c_.do_) hc_.1 ho2_3 hz5
  refine e_call (is := [2]) rfl rfl (call_run_fv (caps := cp7) (args := #[.map (some m2_3)] ++ cp7) he9 rfl (Eq.trans (b := (Cdisk_change_do.val c_.do_ Ac_0 cc_0)) (by kernel_rfl) hv8) (by kernel_rfl)) rfl (fun w hp => (by exact hcl10 w hp)) ?_
  rintro Γ11 U13 v14 hl12 ⟨row15, rfl, rfl, hr16, _⟩
  change WR _ _ _ (CC F Γ11 [row15, [(gd, .cells #[.int .i64 d.room, .map (some m1_3), .map (some m2_3), .slice A3_3 d.loose.length c3_3] ed (0, 0))], r1_3, r3_3, [(g1, .cells #[(Cdisk_change_do.val c_.do_ Ac_0 cc_0), .string c_.name, .slice Ac_2 c_.tail.length cc_2] 68 (0, 0))]]) _ _ (upd _ 11 (.tuple #[]))
  refine WR.nil ?_
  refine WH.next (fun w hw => hw.back hl12 h02 (.cons _ (.cons _ (.cons _ (.cons _ (.cons_cons _ .slnil)))))) ?_
  refine WH.done (by kernel_rfl) ?_
  change WC _ _ _ _ _ _
  refine WC.seq ?_
  intro w hw; have h017 := hw.le
  refine WC.here (C := CC F Γ11 [row15, [(gd, .cells #[.int .i64 d.room, .map (some m1_3), .map (some m2_3), .slice A3_3 d.loose.length c3_3] ed (0, 0))], r1_3, r3_3, [(g1, .cells #[(Cdisk_change_do.val c_.do_ Ac_0 cc_0), .string c_.name, .slice Ac_2 c_.tail.length cc_2] 68 (0, 0))]]) ?_ hw; clear hw
  refine WC.held (CC F Γ11 [[(g1, .cells #[(Cdisk_change_do.val c_.do_ Ac_0 cc_0), .string c_.name, .slice Ac_2 c_.tail.length cc_2] 68 (0, 0))]]) (by kernel_rfl) (fun w hw => hw.drawn _) ?_
  change WH _ _ _ _ (CC F Γ11 [row15, [(gd, .cells #[.int .i64 d.room, .map (some m1_3), .map (some m2_3), .slice A3_3 d.loose.length c3_3] ed (0, 0))], r1_3, r3_3, [(g1, .cells #[(Cdisk_change_do.val c_.do_ Ac_0 cc_0), .string c_.name, .slice Ac_2 c_.tail.length cc_2] 68 (0, 0))]]) _ 11 #[false, false, false, false, false, false, false, false, false, false, false] _
  refine ht (i := 0) rfl (by kernel_rfl) rfl rfl rfl (fun w hw => hw.back (Gh.refl _) h017 (.cons _ (.cons _ (.cons _ (.cons _ (.cons_cons _ .slnil)))))) (q_move (v := .pointer (some ⟨gd, 0, none⟩)) rfl (by kernel_rfl)) ?_
  refine ht (i := 1) rfl (by kernel_rfl) rfl rfl rfl (fun w hw => hw.back (Gh.refl _) h017 (.cons _ (.cons _ (.cons _ (.cons _ (.cons_cons _ .slnil)))))) (q_move (v := .pointer (some ⟨gd, 0, none⟩)) rfl (by kernel_rfl)) ?_
  refine ht (i := 2) rfl (by kernel_rfl) rfl rfl rfl (fun w hw => hw.back (Gh.refl _) h017 (.cons _ (.cons _ (.cons _ (.cons _ (.cons_cons _ .slnil)))))) (q_nil (A := some ⟨gd, 0, none⟩) rfl rfl rfl) ?_
  refine ht (i := 3) rfl (by kernel_rfl) rfl rfl rfl (fun w hw => hw.back (Gh.refl _) h017 (.cons _ (.cons _ (.cons _ (.cons _ (.cons_cons _ .slnil)))))) (q_fl 3 fld_61_3 rfl rfl rfl) ?_
  refine ht (i := 5) rfl (by kernel_rfl) rfl rfl rfl (fun w hw => hw.back (Gh.refl _) h017 (.cons _ (.cons _ (.cons _ (.cons _ (.cons_cons _ .slnil)))))) (q_ldla (i := 0) (vs := [(Cdisk_change_do.val c_.do_ Ac_0 cc_0), .string c_.name, .slice Ac_2 c_.tail.length cc_2]) rfl rfl Try.isAgg68 Try.sizeOf68 rfl rfl) ?_
  refine WH.each (l := [4, 6]) (by kernel_rfl) (by simp) ?_
  intro i hi; simp only [List.mem_cons, List.not_mem_nil, or_false] at hi
  rcases hi with rfl | rfl
  · refine ⟨_, rfl, ?_⟩
    refine va rfl rfl rfl (q_ldl (i := 1) (v := .slice A3_3 d.loose.length c3_3) rfl rfl Try.isAgg59 rfl rfl) ?_
    refine WR.nil ?_
    refine WH.next (fun w hw => hw.back (Gh.refl _) h017 (.cons _ (.cons _ (.cons _ (.cons _ (.cons_cons _ .slnil)))))) ?_
    refine WH.lone (i := 6) (by kernel_rfl) rfl ?_
    refine e_buildSlice (cs := #[(Cdisk_change_do.val c_.do_ Ac_0 cc_0), .string c_.name, .slice Ac_2 c_.tail.length cc_2]) (e := 68) rfl rfl rfl rfl (fun w => by kernel_rfl) ?_
    intro g18
    refine WR.nil ?_
    refine WH.next (fun w hw => hw.back (Gh.refl _) h017 (.cons _ (.cons _ (.cons _ (.cons _ (.cons _ (.cons_cons _ .slnil))))))) ?_
    refine WH.lone (i := 7) (by kernel_rfl) rfl ?_
    obtain ⟨hk19, h⟩ := chk_some h
    refine e_append (T := ddisk_changeT) (xs := d.loose) (ys := [c_]) elem_59 (i := 4) rfl rfl rfl rfl rfl rfl rfl (ho3_3.mono hl12) (of_decide_eq_true hk19) (fun w hw => src_one (T := ddisk_changeT) (y := c_) (i := 0) rfl (by exact ⟨Ac_0, cc_0, Ac_2, cc_2, rfl, (Ddisk_change.fits_mono hc_ hl12)⟩) hw) ?_
    intro row20 A21 c22 ho23
    refine WR.nil ?_
    refine WH.next (fun w hw => hw.back (Gh.refl _) h017 (.cons _ (.cons _ (.cons _ (.cons _ (.cons _ (.cons_cons _ .slnil))))))) ?_
    refine ht (i := 8) rfl (by kernel_rfl) rfl rfl rfl (fun w hw => hw.back (Gh.refl _) h017 (.cons _ (.cons _ (.cons _ (.cons _ (.cons _ (.cons_cons _ .slnil))))))) (q_nil (A := some ⟨gd, 0, none⟩) rfl rfl rfl) ?_
    refine ht (i := 9) rfl (by kernel_rfl) rfl rfl rfl (fun w hw => hw.back (Gh.refl _) h017 (.cons _ (.cons _ (.cons _ (.cons _ (.cons _ (.cons_cons _ .slnil))))))) (q_fl 3 fld_61_3 rfl rfl rfl) ?_
    refine WH.lone (i := 10) (by kernel_rfl) rfl ?_
    refine e_st (i := 2) (v := .slice A21 (d.loose ++ [c_]).length c22) (new := #[.int .i64 d.room, .map (some m1_3), .map (some m2_3), .slice A21 (d.loose ++ [c_]).length c22]) rfl Try.sizeOf59 rfl rfl rfl rfl (by kernel_rfl) rfl rfl rfl rfl ?_
    refine WR.nil ?_
    refine WH.next (fun w hw => hw.back (Gh.refl _) h017 (.cons _ (.cons _ (.cons _ (.cons _ (.cons _ (.cons_cons _ .slnil))))))) ?_
    refine WH.done (by kernel_rfl) ?_
    change WC _ _ _ _ _ _
    refine WC.rs ?_
    refine va rfl rfl rfl (q_assign (v := .int .i64 0) rfl (by kernel_rfl)) ?_
    refine WR.nil ?_
    change WC _ _ _ _ _ _
    refine WC.ret ?_
    intro w hw
    obtain ⟨row_24, hrow_24, hob_24⟩ : ∃ rw : Rowb, rw = ([[(gd, .cells #[.int .i64 d.room, .map (some m1_3), .map (some m2_3), .slice A21 (d.loose ++ [c_]).length c22] ed (0, 0))], r1_3, row15, row20] : List Rowb).flatten ∧ Odisk_Disk.ob ed Γ11 gd rw (⟨d.room, d.safe_, z4, (d.loose ++ [c_])⟩ : Odisk_Disk) := ⟨_, rfl, m1_3, r1_3, m2_3, row15, A21, c22, row20, rfl, ho0_3, (ho1_3.mono hl12), hr16, ho23, trivial⟩
    have hw := hw.fold (is := [2, 2, 1, 1]) rfl hrow_24
    obtain rfl := Option.some.inj h
    subst hF
    exact end_e (is := [0]) (by kernel_rfl) hw rfl ⟨row_24, rfl, rfl, hob_24, (show I64 0 by decide), trivial⟩
  · refine ⟨_, rfl, ?_⟩
    refine e_buildSlice (cs := #[(Cdisk_change_do.val c_.do_ Ac_0 cc_0), .string c_.name, .slice Ac_2 c_.tail.length cc_2]) (e := 68) rfl rfl rfl rfl (fun w => by kernel_rfl) ?_
    intro g18
    refine WR.nil ?_
    refine WH.next (fun w hw => hw.back (Gh.refl _) h017 (.cons _ (.cons _ (.cons _ (.cons _ (.cons _ (.cons_cons _ .slnil))))))) ?_
    refine WH.lone (i := 4) (by kernel_rfl) rfl ?_
    refine va rfl rfl rfl (q_ldl (i := 2) (v := .slice A3_3 d.loose.length c3_3) rfl rfl Try.isAgg59 rfl rfl) ?_
    refine WR.nil ?_
    refine WH.next (fun w hw => hw.back (Gh.refl _) h017 (.cons _ (.cons _ (.cons _ (.cons _ (.cons _ (.cons_cons _ .slnil))))))) ?_
    refine WH.lone (i := 7) (by kernel_rfl) rfl ?_
    obtain ⟨hk19, h⟩ := chk_some h
    refine e_append (T := ddisk_changeT) (xs := d.loose) (ys := [c_]) elem_59 (i := 4) rfl rfl rfl rfl rfl rfl rfl (ho3_3.mono hl12) (of_decide_eq_true hk19) (fun w hw => src_one (T := ddisk_changeT) (y := c_) (i := 0) rfl (by exact ⟨Ac_0, cc_0, Ac_2, cc_2, rfl, (Ddisk_change.fits_mono hc_ hl12)⟩) hw) ?_
    intro row20 A21 c22 ho23
    refine WR.nil ?_
    refine WH.next (fun w hw => hw.back (Gh.refl _) h017 (.cons _ (.cons _ (.cons _ (.cons _ (.cons _ (.cons_cons _ .slnil))))))) ?_
    refine ht (i := 8) rfl (by kernel_rfl) rfl rfl rfl (fun w hw => hw.back (Gh.refl _) h017 (.cons _ (.cons _ (.cons _ (.cons _ (.cons _ (.cons_cons _ .slnil))))))) (q_nil (A := some ⟨gd, 0, none⟩) rfl rfl rfl) ?_
    refine ht (i := 9) rfl (by kernel_rfl) rfl rfl rfl (fun w hw => hw.back (Gh.refl _) h017 (.cons _ (.cons _ (.cons _ (.cons _ (.cons _ (.cons_cons _ .slnil))))))) (q_fl 3 fld_61_3 rfl rfl rfl) ?_
    refine WH.lone (i := 10) (by kernel_rfl) rfl ?_
    refine e_st (i := 2) (v := .slice A21 (d.loose ++ [c_]).length c22) (new := #[.int .i64 d.room, .map (some m1_3), .map (some m2_3), .slice A21 (d.loose ++ [c_]).length c22]) rfl Try.sizeOf59 rfl rfl rfl rfl (by kernel_rfl) rfl rfl rfl rfl ?_
    refine WR.nil ?_
    refine WH.next (fun w hw => hw.back (Gh.refl _) h017 (.cons _ (.cons _ (.cons _ (.cons _ (.cons _ (.cons_cons _ .slnil))))))) ?_
    refine WH.done (by kernel_rfl) ?_
    change WC _ _ _ _ _ _
    refine WC.rs ?_
    refine va rfl rfl rfl (q_assign (v := .int .i64 0) rfl (by kernel_rfl)) ?_
    refine WR.nil ?_
    change WC _ _ _ _ _ _
    refine WC.ret ?_
    intro w hw
    obtain ⟨row_24, hrow_24, hob_24⟩ : ∃ rw : Rowb, rw = ([[(gd, .cells #[.int .i64 d.room, .map (some m1_3), .map (some m2_3), .slice A21 (d.loose ++ [c_]).length c22] ed (0, 0))], r1_3, row15, row20] : List Rowb).flatten ∧ Odisk_Disk.ob ed Γ11 gd rw (⟨d.room, d.safe_, z4, (d.loose ++ [c_])⟩ : Odisk_Disk) := ⟨_, rfl, m1_3, r1_3, m2_3, row15, A21, c22, row20, rfl, ho0_3, (ho1_3.mono hl12), hr16, ho23, trivial⟩
    have hw := hw.fold (is := [2, 2, 1, 1]) rfl hrow_24
    obtain rfl := Option.some.inj h
    subst hF
    exact end_e (is := [0]) (by kernel_rfl) hw rfl ⟨row_24, rfl, rfl, hob_24, (show I64 0 by decide), trivial⟩
abbrev r_disk_Disk_Append (gd ed : Nat) (r : Odisk_Disk × Int) (U : List Rowb) (Γ : Gh) (v : Value) : Prop := ∃ (rowd' : Rowb), v = .int .i64 r.2 ∧ U = [rowd'] ∧ Odisk_Disk.ob ed Γ gd rowd' r.1 ∧ I64 r.2 ∧ True
set_option maxRecDepth 100000 in
set_option maxHeartbeats 400000 in
theorem t_disk_Disk_Append {Γ : Gh} {w0 : World} {gd ed : Nat} {rowd : Rowb} {d : Odisk_Disk} (hd : Odisk_Disk.ob ed Γ gd rowd d) (name : ByteArray) (hname : name.size ≤ lim) {Ab : Option Addr} {cb : Nat} {b : List UInt8} (hb : Sl byteT Γ Ab b) (hbc : b.length ≤ cb) (hp : Pre [rowd] Γ w0) {r : Odisk_Disk × Int} (h : m_disk_Disk_Append d name b = some r) : Calls Try.prog 11 #[.pointer (some ⟨gd, 0, none⟩), .string name, .slice Ab b.length cb] w0 (Outc Γ [rowd] w0 (r_disk_Disk_Append gd ed r)) := by
  refine calls_of (N := 31) (rs := [6]) (args := [.pointer (some ⟨gd, 0, none⟩), .string name, .slice Ab b.length cb]) Try.func11 rfl Try.ntmps11 Try.results11 rfl ?_
  obtain ⟨F, hF⟩ : ∃ F : Fm, F = ⟨ids [rowd], w0, Γ⟩ := ⟨_, rfl⟩
  refine WC.here (C := CC F Γ [rowd]) ?_ (hF ▸ hp.start)
  refine WC.rs ?_
  refine va rfl rfl rfl (q_assign (v := .int .i64 0) rfl (by kernel_rfl)) ?_
  refine WR.nil ?_
  change WC _ _ _ _ _ _
  refine WC.seq ?_
  refine WC.rs ?_
  refine va rfl rfl rfl (q_move (v := .string name) rfl (by kernel_rfl)) ?_
  refine e_buildSlice (cs := #[.string name]) (e := 9) rfl rfl rfl rfl (fun w => by kernel_rfl) ?_
  intro g1
  have ho2 : Own strT Γ 9 [(g1, .cells #[.string name] 9 (0, 0))] (some ⟨g1, 0, none⟩) 1 [name] := Own.of_block (T := strT) (ys := [name]) [[.string name]] rfl rfl (show 1 ≤ lim by decide) (fun i h => match i, h with | 0, _ => (show Ty.rd strT Γ [.string name] name from ⟨rfl, hname⟩))
  obtain ⟨z3, hz4, h⟩ := bnd h
  refine vc rfl rfl rfl (q_call (call_run Try.call26 rfl rfl (by kernel_rfl)) (fun w hw => t_disk_right (Γ := Gh.all w) (ho2.sl hw.sat.le_all (hw.ra 0 rfl)) ho2.capz (Sat.all w) hz4)) ?_
  refine va rfl rfl rfl (q_not rfl rfl) ?_
  refine WR.nil ?_
  change WC _ _ _ _ _ _
  refine WC.cif h (by kernel_rfl) (fun hb5 h => ?_) (fun hb5 h => ?_)
  · skip
    refine WC.rs ?_
    refine va rfl rfl rfl (q_assign (v := .int .i64 70) rfl (by kernel_rfl)) ?_
    refine WR.nil ?_
    change WC _ _ _ _ _ _
    refine WC.ret ?_
    intro w hw
    obtain rfl := Option.some.inj h
    subst hF
    exact end_e (is := [1]) (by kernel_rfl) hw rfl ⟨rowd, rfl, rfl, hd, (show I64 70 by decide), trivial⟩
  · skip
    refine WC.skip ?_
    change WC _ _ _ _ _ _
    refine WC.seq ?_
    refine WC.seq ?_
    have hq := hd
    obtain ⟨m1_6, r1_6, m2_6, r2_6, A3_6, c3_6, r3_6, hrow_6, ho0_6, ho1_6, ho2_6, ho3_6, -⟩ := hq
    intro w hw; have hw := hw.unfold (i := 1) rfl hrow_6
    refine WC.here (C := CC F Γ [[(gd, .cells #[.int .i64 d.room, .map (some m1_6), .map (some m2_6), .slice A3_6 d.loose.length c3_6] ed (0, 0))], r1_6, r2_6, r3_6, [(g1, .cells #[.string name] 9 (0, 0))]]) ?_ hw
    clear hw
    refine WC.dr (by kernel_rfl) (by kernel_rfl) (fun w hw => hw.drawn _) ?_
    refine wa rfl rfl rfl (q_move (v := .slice Ab b.length cb) rfl (by kernel_rfl)) ?_
    refine wa rfl rfl rfl (q_len_slice rfl Try.underlying22 rfl) ?_
    refine wa rfl rfl rfl (q_move (v := .pointer (some ⟨gd, 0, none⟩)) rfl (by kernel_rfl)) ?_
    refine wa rfl rfl rfl (q_nil (A := some ⟨gd, 0, none⟩) rfl rfl rfl) ?_
    refine wa rfl rfl rfl (q_fl 0 fld_61_0 rfl rfl rfl) ?_
    refine wa rfl rfl rfl (q_ldl (i := 0) (v := .int .i64 d.room) rfl rfl Try.isAgg3 rfl rfl) ?_
    refine wa rfl rfl rfl (q_move (v := .pointer (some ⟨gd, 0, none⟩)) rfl (by kernel_rfl)) ?_
    obtain ⟨z7, hz8, h⟩ := bnd h
    refine wc rfl rfl rfl (q_call (call_run Try.call18 rfl rfl (by kernel_rfl)) (fun w hw => t_disk_Disk_Used (Γ := Gh.all w) (hd.mono hw.sat.le_all) (hw.raU [0, 0, 0, 0] rfl hrow_6) (Sat.all w) hz8)) ?_
    refine wa rfl rfl rfl (q_sub rfl rfl rfl) ?_
    refine wa rfl rfl rfl (q_gtr rfl rfl rfl) ?_
    refine WQ.nil ?_
    change WC _ _ _ _ _ _
    refine WC.cif h (by kernel_rfl) (fun hb9 h => ?_) (fun hb9 h => ?_)
    · skip
      refine WC.rs ?_
      refine va rfl rfl rfl (q_assign (v := .int .i64 72) rfl (by kernel_rfl)) ?_
      refine WR.nil ?_
      change WC _ _ _ _ _ _
      refine WC.ret ?_
      intro w hw
      have hw := hw.fold (is := [0, 0, 0, 0]) rfl hrow_6
      obtain rfl := Option.some.inj h
      subst hF
      exact end_e (is := [0]) (by kernel_rfl) hw rfl ⟨rowd, rfl, rfl, hd, (show I64 72 by decide), trivial⟩
    · skip
      refine WC.skip ?_
      change WC _ _ _ _ _ _
      refine WC.rs ?_
      refine va rfl rfl rfl (q_move (v := .slice Ab b.length cb) rfl (by kernel_rfl)) ?_
      obtain ⟨z11, hz12, h⟩ := bnd h
      refine e_call (is := []) rfl rfl (call_run Try.call27 rfl rfl (by kernel_rfl)) rfl (fun w hp => t_slices_Clone_byte_byte hb hbc hp hz12) ?_
      rintro Γ13 U15 v16 hl14 ⟨A17, c18, row19, rfl, rfl, hr20, _⟩
      change WR _ _ _ (CC F Γ13 [row19, [(gd, .cells #[.int .i64 d.room, .map (some m1_6), .map (some m2_6), .slice A3_6 d.loose.length c3_6] ed (0, 0))], r1_6, r2_6, r3_6, [(g1, .cells #[.string name] 9 (0, 0))]]) _ _ (upd _ 22 (.slice A17 z11.length c18))
      refine va rfl rfl rfl (q_assign (v := .slice A17 z11.length c18) rfl (by kernel_rfl)) ?_
      refine WR.nil ?_
      change WC _ _ _ _ _ _
      refine WC.rs ?_
      refine va rfl rfl rfl (q_move (v := .pointer (some ⟨gd, 0, none⟩)) rfl (by kernel_rfl)) ?_
      refine va rfl rfl rfl (q_move (v := .string name) rfl (by kernel_rfl)) ?_
      refine va rfl rfl rfl (q_move (v := .slice A17 z11.length c18) rfl (by kernel_rfl)) ?_
      have hc25 := hr20.capz
      intro w hw; obtain ⟨Γ21, hw, hl22, hr23⟩ := hw.seal (i := 0) rfl; have hs24 := hr20.sl hl22 hr23
      refine WR.here (C := CC F Γ21 [[], [(gd, .cells #[.int .i64 d.room, .map (some m1_6), .map (some m2_6), .slice A3_6 d.loose.length c3_6] ed (0, 0))], r1_6, r2_6, r3_6, [(g1, .cells #[.string name] 9 (0, 0))]]) ?_ hw
      clear hw
      obtain ⟨z26, hz27, h⟩ := bnd h
      refine e_call (is := []) rfl rfl (call_run Try.call29 rfl rfl (by kernel_rfl)) rfl (fun w hp => t_disk_add name hname hs24 hc25 hp hz27) ?_
      rintro Γ28 U30 v31 hl29 ⟨A32, c33, rfl, rfl, hr34, _⟩
      change WR _ _ _ (CC F Γ28 [[], [(gd, .cells #[.int .i64 d.room, .map (some m1_6), .map (some m2_6), .slice A3_6 d.loose.length c3_6] ed (0, 0))], r1_6, r2_6, r3_6, [(g1, .cells #[.string name] 9 (0, 0))]]) _ _ (upd _ 26 ((Cdisk_change_do.val z26 A32 c33)))
      refine va rfl rfl rfl (q_move (v := .string name) rfl (by kernel_rfl)) ?_
      refine va rfl rfl rfl (q_move (v := .slice A17 z11.length c18) rfl (by kernel_rfl)) ?_
      refine va rfl rfl rfl (q_build' (v := .agg #[(Cdisk_change_do.val z26 A32 c33), .string name, .slice A17 z11.length c18]) rfl (bargs3 rfl rfl rfl) (fun w => by kernel_rfl)) ?_
      intro w hw; have hw := hw.fold (is := [1, 1, 1, 1]) rfl hrow_6
      refine WR.here (C := CC F Γ28 [rowd, [], [(g1, .cells #[.string name] 9 (0, 0))]]) ?_ hw
      clear hw
      obtain ⟨z36, hz37, h⟩ := bnd h
      refine e_call (is := [0]) rfl rfl (call_run Try.call28 rfl rfl (by kernel_rfl)) rfl (fun w hp => t_disk_Disk_done (hd.mono ((hl14.trans hl22).trans hl29)) (⟨z26, name, z11⟩ : Ddisk_change) ⟨hr34, hname, ⟨hc25, (hs24.mono hl29)⟩⟩ hp hz37) ?_
      rintro Γ38 U40 v41 hl39 ⟨row42, rfl, rfl, hr43, hr44, _⟩
      change WR _ _ _ (CC F Γ38 [row42, [], [(g1, .cells #[.string name] 9 (0, 0))]]) _ _ (upd _ 30 (.int .i64 z36.2))
      refine va rfl rfl rfl (q_assign (v := .int .i64 z36.2) rfl (by kernel_rfl)) ?_
      refine WR.nil ?_
      change WC _ _ _ _ _ _
      refine WC.ret ?_
      intro w hw
      obtain rfl := Option.some.inj h
      subst hF
      exact end_e (is := [0]) (by kernel_rfl) hw rfl ⟨row42, rfl, rfl, hr43, hr44, trivial⟩
abbrev r_disk_Disk_Sync (gd ed : Nat) (r : Odisk_Disk) (U : List Rowb) (Γ : Gh) (v : Value) : Prop := ∃ (rowd' : Rowb), v = .tuple #[] ∧ U = [rowd'] ∧ Odisk_Disk.ob ed Γ gd rowd' r ∧ True
set_option maxRecDepth 100000 in
set_option maxHeartbeats 400000 in
theorem t_disk_Disk_Sync {Γ : Gh} {w0 : World} {gd ed : Nat} {rowd : Rowb} {d : Odisk_Disk} (hd : Odisk_Disk.ob ed Γ gd rowd d) (hp : Pre [rowd] Γ w0) {r : Odisk_Disk} (h : m_disk_Disk_Sync d = some r) : Calls Try.prog 25 #[.pointer (some ⟨gd, 0, none⟩)] w0 (Outc Γ [rowd] w0 (r_disk_Disk_Sync gd ed r)) := by
  refine calls_of (N := 13) (rs := []) (args := [.pointer (some ⟨gd, 0, none⟩)]) Try.func25 rfl Try.ntmps25 Try.results25 rfl ?_
  obtain ⟨F, hF⟩ : ∃ F : Fm, F = ⟨ids [rowd], w0, Γ⟩ := ⟨_, rfl⟩
  refine WC.here (C := CC F Γ [rowd]) ?_ (hF ▸ hp.start)
  refine WC.rs ?_
  refine va rfl rfl rfl (q_move (v := .pointer (some ⟨gd, 0, none⟩)) rfl (by kernel_rfl)) ?_
  refine va rfl rfl rfl (q_move (v := .pointer (some ⟨gd, 0, none⟩)) rfl (by kernel_rfl)) ?_
  refine va rfl rfl rfl (q_nil (A := some ⟨gd, 0, none⟩) rfl rfl rfl) ?_
  refine va rfl rfl rfl (q_fl 2 fld_61_2 rfl rfl rfl) ?_
  have hq := hd
  obtain ⟨m1_1, r1_1, m2_1, r2_1, A3_1, c3_1, r3_1, hrow_1, ho0_1, ho1_1, ho2_1, ho3_1, -⟩ := hq
  intro w hw; have hw := hw.unfold (i := 0) rfl hrow_1
  refine WR.here (C := CC F Γ [[(gd, .cells #[.int .i64 d.room, .map (some m1_1), .map (some m2_1), .slice A3_1 d.loose.length c3_1] ed (0, 0))], r1_1, r2_1, r3_1]) ?_ hw
  clear hw
  refine va rfl rfl rfl (q_ldl (i := 0) (v := .map (some m2_1)) rfl rfl Try.isAgg58 rfl rfl) ?_
  refine e_clone clone30 (i := 2) rfl ho2_1 rfl rfl (call_run Try.call30 rfl rfl (by kernel_rfl)) ?_
  intro g2 row3 hm4
  change WR _ _ _ (CC F Γ [row3, [(gd, .cells #[.int .i64 d.room, .map (some m1_1), .map (some m2_1), .slice A3_1 d.loose.length c3_1] ed (0, 0))], r1_1, r2_1, r3_1]) _ _ (upd _ 7 (.map (some g2)))
  refine va rfl rfl rfl (q_nil (A := some ⟨gd, 0, none⟩) rfl rfl rfl) ?_
  refine va rfl rfl rfl (q_fl 1 fld_61_1 rfl rfl rfl) ?_
  refine e_st (i := 1) (v := .map (some g2)) (new := #[.int .i64 d.room, .map (some g2), .map (some m2_1), .slice A3_1 d.loose.length c3_1]) rfl Try.sizeOf58 rfl rfl rfl rfl (by kernel_rfl) rfl rfl rfl rfl ?_
  refine WR.nil ?_
  change WC _ _ _ _ _ _
  refine WC.region ?_
  refine va rfl rfl rfl (q_move (v := .pointer (some ⟨gd, 0, none⟩)) rfl (by kernel_rfl)) ?_
  refine va rfl rfl rfl (q_nil (A := some ⟨gd, 0, none⟩) rfl rfl rfl) ?_
  refine va rfl rfl rfl (q_fl 3 fld_61_3 rfl rfl rfl) ?_
  refine e_st (i := 1) (v := .slice none 0 0) (new := #[.int .i64 d.room, .map (some g2), .map (some m2_1), .slice none 0 0]) rfl Try.sizeOf59 rfl rfl rfl rfl (by kernel_rfl) rfl rfl rfl rfl ?_
  refine WR.nil ?_
  intro w hw
  have hw := hw.pad
  obtain ⟨row_5, hrow_5, hob_5⟩ : ∃ rw : Rowb, rw = ([[(gd, .cells #[.int .i64 d.room, .map (some g2), .map (some m2_1), .slice none 0 0] ed (0, 0))], row3, r2_1, []] : List Rowb).flatten ∧ Odisk_Disk.ob ed Γ gd rw (⟨d.room, d.seen, d.seen, []⟩ : Odisk_Disk) := ⟨_, rfl, g2, row3, m2_1, r2_1, none, 0, [], rfl, ho0_1, hm4, ho2_1, (Own.nil ddisk_changeT Γ 68), trivial⟩
  have hw := hw.fold (is := [2, 1, 2, 0]) rfl hrow_5
  obtain rfl := Option.some.inj h
  subst hF
  exact end_e (is := [0]) (by kernel_rfl) hw rfl ⟨row_5, rfl, rfl, hob_5, trivial⟩
set_option maxRecDepth 100000 in
set_option maxHeartbeats 400000 in
theorem t_disk_Disk_Loose {Γ : Gh} {w0 : World} {gd ed : Nat} {rowd : Rowb} {d : Odisk_Disk} (hd : Odisk_Disk.ob ed Γ gd rowd d) (hdr : ∀ p ∈ rowd, Γ p.1 = some p.2) (hs : Sat Γ w0) {r : Int} (h : m_disk_Disk_Loose d = some r) : Calls Try.prog 17 #[.pointer (some ⟨gd, 0, none⟩)] w0 (fun e w' => e = .returned (.int .i64 r) ∧ Fr no w0 w') := by
  refine calls_of (N := 8) (rs := [2]) (args := [.pointer (some ⟨gd, 0, none⟩)]) Try.func17 rfl Try.ntmps17 Try.results17 rfl ?_
  obtain ⟨F, hF⟩ : ∃ F : Fm, F = ⟨no, w0, Γ⟩ := ⟨_, rfl⟩
  refine WC.here (C := CC F Γ []) ?_ (hF ▸ Cur.start0 hs)
  refine WC.rs ?_
  refine va rfl rfl rfl (q_assign (v := .int .i64 0) rfl (by kernel_rfl)) ?_
  refine WR.nil ?_
  change WC _ _ _ _ _ _
  refine WC.rs ?_
  refine va rfl rfl rfl (q_move (v := .pointer (some ⟨gd, 0, none⟩)) rfl (by kernel_rfl)) ?_
  refine va rfl rfl rfl (q_nil (A := some ⟨gd, 0, none⟩) rfl rfl rfl) ?_
  refine va rfl rfl rfl (q_fl 3 fld_61_3 rfl rfl rfl) ?_
  have hq := hd
  obtain ⟨m1_1, r1_1, m2_1, r2_1, A3_1, c3_1, r3_1, hrow_1, ho0_1, ho1_1, ho2_1, ho3_1, -⟩ := hq
  have hg_2 : ∀ u ∈ ([[(gd, .cells #[.int .i64 d.room, .map (some m1_1), .map (some m2_1), .slice A3_1 d.loose.length c3_1] ed (0, 0))], r1_1, r2_1, r3_1] : List Rowb), ∀ p ∈ u, Γ p.1 = some p.2 := fun u hu p hp => (fun p hp => (hdr p hp)) p (hrow_1 ▸ List.mem_flatten.2 ⟨u, hu, hp⟩)
  have hgc3 := hg_2 _ (List.mem_cons_self ..) (gd, _) (List.mem_singleton.2 rfl)
  have hgs4 := hg_2 r1_1 (by simp)
  have hgs5 := hg_2 r2_1 (by simp)
  have hgs6 := hg_2 r3_1 (by simp)
  have hs7 := ho3_1.sl (Gh.refl _) hgs6
  refine va rfl rfl rfl (q_ldg (v := .slice A3_1 d.loose.length c3_1) hgc3 rfl Try.isAgg59 rfl rfl) ?_
  refine va rfl rfl rfl (q_len_slice rfl Try.underlying59 rfl) ?_
  refine va rfl rfl rfl (q_assign (v := .int .i64 ((d.loose.length : Nat) : Int)) rfl (by kernel_rfl)) ?_
  refine WR.nil ?_
  change WC _ _ _ _ _ _
  refine WC.ret ?_
  intro w hw
  obtain rfl := Option.some.inj h
  subst hF
  exact ⟨by kernel_rfl, hw.fr⟩
abbrev r_disk_Disk_Crash (gd ed : Nat) (r : Odisk_Disk) (U : List Rowb) (Γ : Gh) (v : Value) : Prop := ∃ (rowd' : Rowb), v = .tuple #[] ∧ U = [rowd'] ∧ Odisk_Disk.ob ed Γ gd rowd' r ∧ True
set_option maxRecDepth 100000 in
set_option maxHeartbeats 400000 in
theorem t_disk_Disk_Crash {Γ : Gh} {w0 : World} {gd ed : Nat} {rowd : Rowb} {d : Odisk_Disk} (hd : Odisk_Disk.ob ed Γ gd rowd d) (keep : Int) (hkeep : I64 keep) (torn : Int) (htorn : I64 torn) (hp : Pre [rowd] Γ w0) {r : Odisk_Disk} (h : m_disk_Disk_Crash d keep torn = some r) : Calls Try.prog 13 #[.pointer (some ⟨gd, 0, none⟩), .int .i64 keep, .int .i64 torn] w0 (Outc Γ [rowd] w0 (r_disk_Disk_Crash gd ed r)) := by
  refine calls_of (N := 82) (rs := []) (args := [.pointer (some ⟨gd, 0, none⟩), .int .i64 keep, .int .i64 torn]) Try.func13 rfl Try.ntmps13 Try.results13 rfl ?_
  obtain ⟨F, hF⟩ : ∃ F : Fm, F = ⟨ids [rowd], w0, Γ⟩ := ⟨_, rfl⟩
  refine WC.here (C := CC F Γ [rowd]) ?_ (hF ▸ hp.start)
  refine WC.rs ?_
  refine va rfl rfl rfl (q_move (v := .int .i64 keep) rfl (by kernel_rfl)) ?_
  refine va rfl rfl rfl (q_max rfl rfl rfl) ?_
  refine va rfl rfl rfl (q_move (v := .pointer (some ⟨gd, 0, none⟩)) rfl (by kernel_rfl)) ?_
  refine va rfl rfl rfl (q_nil (A := some ⟨gd, 0, none⟩) rfl rfl rfl) ?_
  refine va rfl rfl rfl (q_fl 3 fld_61_3 rfl rfl rfl) ?_
  have hq := hd
  obtain ⟨m1_1, r1_1, m2_1, r2_1, A3_1, c3_1, r3_1, hrow_1, ho0_1, ho1_1, ho2_1, ho3_1, -⟩ := hq
  intro w hw; have hw := hw.unfold (i := 0) rfl hrow_1
  refine WR.here (C := CC F Γ [[(gd, .cells #[.int .i64 d.room, .map (some m1_1), .map (some m2_1), .slice A3_1 d.loose.length c3_1] ed (0, 0))], r1_1, r2_1, r3_1]) ?_ hw
  clear hw
  refine va rfl rfl rfl (q_ldl (i := 0) (v := .slice A3_1 d.loose.length c3_1) rfl rfl Try.isAgg59 rfl rfl) ?_
  refine va rfl rfl rfl (q_len_slice rfl Try.underlying59 rfl) ?_
  refine va rfl rfl rfl (q_min rfl rfl rfl) ?_
  refine va rfl rfl rfl (q_assign (v := .int .i64 (min (max keep 0) ((d.loose.length : Nat) : Int))) rfl (by kernel_rfl)) ?_
  refine WR.nil ?_
  change WC _ _ _ _ _ _
  refine WC.seq ?_
  refine WC.rs ?_
  refine va rfl rfl rfl (q_move (v := .pointer (some ⟨gd, 0, none⟩)) rfl (by kernel_rfl)) ?_
  refine va rfl rfl rfl (q_nil (A := some ⟨gd, 0, none⟩) rfl rfl rfl) ?_
  refine va rfl rfl rfl (q_fl 3 fld_61_3 rfl rfl rfl) ?_
  refine va rfl rfl rfl (q_ldl (i := 0) (v := .slice A3_1 d.loose.length c3_1) rfl rfl Try.isAgg59 rfl rfl) ?_
  refine va rfl rfl rfl (q_move (v := .int .i64 (min (max keep 0) ((d.loose.length : Nat) : Int))) rfl (by kernel_rfl)) ?_
  have hc6 := ho3_1.capz
  intro w hw; obtain ⟨Γ2, hw, hl3, hr4⟩ := hw.seal (i := 3) rfl; have hs5 := ho3_1.sl hl3 hr4
  refine WR.here (C := CC F Γ2 [[(gd, .cells #[.int .i64 d.room, .map (some m1_1), .map (some m2_1), .slice A3_1 d.loose.length c3_1] ed (0, 0))], r1_1, r2_1, []]) ?_ hw
  clear hw
  obtain ⟨hk7, h⟩ := chk_some h
  refine va rfl rfl rfl (q_cut_to (c := c3_1) (hi := (min (max keep 0) ((d.loose.length : Nat) : Int)).toNat) (xs := d.loose) Try.underlying59 Try.sizeOf68 rfl rfl (inle_eq rfl hk7) (inle_le hk7) hc6) ?_
  refine va rfl rfl rfl (q_len_slice rfl Try.underlying59 rfl) ?_
  refine va rfl rfl rfl (q_move (v := .int .i64 0) rfl (by kernel_rfl)) ?_
  refine WR.nil ?_
  change WC _ _ _ _ _ _
  refine WC.block ?_
  refine WC.forI h (fun (i14 : Nat) (m10 : List (ByteArray × (List UInt8))) σ w => ∃ (Γ8 : Gh), ∃ (row11 : Rowb), slots σ [(0, .pointer (some ⟨gd, 0, none⟩)), (1, .int .i64 (min (max keep 0) ((d.loose.length : Nat) : Int))), (2, .int .i64 torn), (23, .slice A3_1 (List.take ((min (max keep 0) ((d.loose.length : Nat) : Int)).toNat) d.loose).length c3_1), (24, .int .i64 (((List.take ((min (max keep 0) ((d.loose.length : Nat) : Int)).toNat) d.loose).length : Nat) : Int)), (25, .int .i64 ((i14 : Nat) : Int))] ∧ CC F Γ8 [[(gd, .cells #[.int .i64 d.room, .map (some m1_1), .map (some m2_1), .slice A3_1 d.loose.length c3_1] ed (0, 0))], row11, r2_1] w ∧ Gh.le Γ2 Γ8 ∧ MapO (strK Try.underlying9) (slT byteT).v Γ8 row11 m1_1 m10 ∧ True) ?_ ?_
  · skip
    intro w hw
    exact ⟨Γ2, r1_1, (sl_ (by kernel_rfl)), (hw.only (is := [0, 0, 0]) rfl), (Gh.refl _), (ho1_1.mono hl3), trivial⟩
  rintro f13 i14 m10 σ w hi15 hlt16 hge17 ⟨Γ8, row11, hsl, hw, hl9, ho12, -⟩
  refine Wpt.slots hsl ?_
  refine WC.here (C := CC F Γ8 [[(gd, .cells #[.int .i64 d.room, .map (some m1_1), .map (some m2_1), .slice A3_1 d.loose.length c3_1] ed (0, 0))], row11, r2_1]) ?_ hw
  clear hw hsl
  refine WC.rs ?_
  refine va rfl rfl rfl (q_lss rfl rfl rfl) ?_
  refine WR.nil ?_
  change WC _ _ _ _ _ _
  refine WC.seq ?_
  refine WC.cond (b := (decide (((i14 : Nat) : Int) < (((List.take ((min (max keep 0) ((d.loose.length : Nat) : Int)).toNat) d.loose).length : Nat) : Int)))) (by kernel_rfl) (fun hb18 => ?_) (fun hb18 => ?_)
  · skip
    have hl19 := ilt hb18
    have h := hlt16 hl19
    refine WC.skip ?_
    change WC _ _ _ _ _ _
    refine WC.seq ?_
    refine WC.block ?_
    refine WC.rs ?_
    refine va rfl rfl rfl (q_ixn (i := i14) Try.underlying59 Try.sizeOf68 rfl rfl rfl hl19 (((hs5.mono hl9).cut_to (hi := (min (max keep 0) ((d.loose.length : Nat) : Int)).toNat) (inle_le hk7)).some_ hl19)) ?_
    obtain ⟨A20, c21, A22, c23, hx24⟩ := ((hs5.mono hl9).cut_to (hi := (min (max keep 0) ((d.loose.length : Nat) : Int)).toNat) (inle_le hk7)).ddisk_changeT_at i14
    refine va rfl rfl rfl (q_lda (c := 0) (vs := [(Cdisk_change_do.val ((gt (List.take ((min (max keep 0) ((d.loose.length : Nat) : Int)).toNat) d.loose) i14).do_) A20 c21), .string (gt (List.take ((min (max keep 0) ((d.loose.length : Nat) : Int)).toNat) d.loose) i14).name, .slice A22 ((gt (List.take ((min (max keep 0) ((d.loose.length : Nat) : Int)).toNat) d.loose) i14).tail).length c23]) (hx24 hl19).2 rfl Try.isAgg68 Try.sizeOf68 rfl rfl rfl) ?_
    refine e_alloc Try.zeroValue68 rfl rfl rfl rfl ?_
    intro g25
    refine e_st (i := 0) (v := .agg #[(Cdisk_change_do.val ((gt (List.take ((min (max keep 0) ((d.loose.length : Nat) : Int)).toNat) d.loose) i14).do_) A20 c21), .string (gt (List.take ((min (max keep 0) ((d.loose.length : Nat) : Int)).toNat) d.loose) i14).name, .slice A22 ((gt (List.take ((min (max keep 0) ((d.loose.length : Nat) : Int)).toNat) d.loose) i14).tail).length c23]) (new := #[(Cdisk_change_do.val ((gt (List.take ((min (max keep 0) ((d.loose.length : Nat) : Int)).toNat) d.loose) i14).do_) A20 c21), .string (gt (List.take ((min (max keep 0) ((d.loose.length : Nat) : Int)).toNat) d.loose) i14).name, .slice A22 ((gt (List.take ((min (max keep 0) ((d.loose.length : Nat) : Int)).toNat) d.loose) i14).tail).length c23]) rfl Try.sizeOf68 rfl rfl rfl rfl (by kernel_rfl) rfl rfl rfl rfl ?_
    refine WR.nil ?_
    change WC _ _ _ _ _ _
    intro w hw; have h026 := hw.le
    refine WC.here (C := CC F Γ8 [[(g25, .cells #[(Cdisk_change_do.val ((gt (List.take ((min (max keep 0) ((d.loose.length : Nat) : Int)).toNat) d.loose) i14).do_) A20 c21), .string (gt (List.take ((min (max keep 0) ((d.loose.length : Nat) : Int)).toNat) d.loose) i14).name, .slice A22 ((gt (List.take ((min (max keep 0) ((d.loose.length : Nat) : Int)).toNat) d.loose) i14).tail).length c23] 68 (0, 0))], [(gd, .cells #[.int .i64 d.room, .map (some m1_1), .map (some m2_1), .slice A3_1 d.loose.length c3_1] ed (0, 0))], row11, r2_1]) ?_ hw; clear hw
    refine WC.held (CC F Γ8 [[(g25, .cells #[(Cdisk_change_do.val ((gt (List.take ((min (max keep 0) ((d.loose.length : Nat) : Int)).toNat) d.loose) i14).do_) A20 c21), .string (gt (List.take ((min (max keep 0) ((d.loose.length : Nat) : Int)).toNat) d.loose) i14).name, .slice A22 ((gt (List.take ((min (max keep 0) ((d.loose.length : Nat) : Int)).toNat) d.loose) i14).tail).length c23] 68 (0, 0))], [(gd, .cells #[.int .i64 d.room, .map (some m1_1), .map (some m2_1), .slice A3_1 d.loose.length c3_1] ed (0, 0))]]) (by kernel_rfl) (fun w hw => hw.drawn _) ?_
    change WH _ _ _ _ (CC F Γ8 [[(g25, .cells #[(Cdisk_change_do.val ((gt (List.take ((min (max keep 0) ((d.loose.length : Nat) : Int)).toNat) d.loose) i14).do_) A20 c21), .string (gt (List.take ((min (max keep 0) ((d.loose.length : Nat) : Int)).toNat) d.loose) i14).name, .slice A22 ((gt (List.take ((min (max keep 0) ((d.loose.length : Nat) : Int)).toNat) d.loose) i14).tail).length c23] 68 (0, 0))], [(gd, .cells #[.int .i64 d.room, .map (some m1_1), .map (some m2_1), .slice A3_1 d.loose.length c3_1] ed (0, 0))], row11, r2_1]) _ 7 #[false, false, false, false, false, false, false] _
    refine ht (i := 0) rfl (by kernel_rfl) rfl rfl rfl (fun w hw => hw.back (Gh.refl _) h026 (.cons_cons _ (.cons_cons _ (.cons _ (.cons _ .slnil))))) (q_fl 0 fld_68_0 rfl rfl rfl) ?_
    refine ht (i := 1) rfl (by kernel_rfl) rfl rfl rfl (fun w hw => hw.back (Gh.refl _) h026 (.cons_cons _ (.cons_cons _ (.cons _ (.cons _ .slnil))))) (q_ldl (i := 0) (v := (Cdisk_change_do.val ((gt (List.take ((min (max keep 0) ((d.loose.length : Nat) : Int)).toNat) d.loose) i14).do_) A20 c21)) rfl rfl Try.isAgg65 rfl rfl) ?_
    refine ht (i := 2) rfl (by kernel_rfl) rfl rfl rfl (fun w hw => hw.back (Gh.refl _) h026 (.cons_cons _ (.cons_cons _ (.cons _ (.cons _ .slnil))))) (q_move (v := .pointer (some ⟨gd, 0, none⟩)) rfl (by kernel_rfl)) ?_
    refine ht (i := 3) rfl (by kernel_rfl) rfl rfl rfl (fun w hw => hw.back (Gh.refl _) h026 (.cons_cons _ (.cons_cons _ (.cons _ (.cons _ .slnil))))) (q_nil (A := some ⟨gd, 0, none⟩) rfl rfl rfl) ?_
    refine ht (i := 4) rfl (by kernel_rfl) rfl rfl rfl (fun w hw => hw.back (Gh.refl _) h026 (.cons_cons _ (.cons_cons _ (.cons _ (.cons _ .slnil))))) (q_fl 1 fld_61_1 rfl rfl rfl) ?_
    refine ht (i := 5) rfl (by kernel_rfl) rfl rfl rfl (fun w hw => hw.back (Gh.refl _) h026 (.cons_cons _ (.cons_cons _ (.cons _ (.cons _ .slnil))))) (q_ldl (i := 1) (v := .map (some m1_1)) rfl rfl Try.isAgg58 rfl rfl) ?_
    refine WH.lone (i := 6) (by kernel_rfl) rfl ?_
    obtain ⟨z27, hz28, h⟩ := bnd h
    obtain ⟨fd29, cp30, hv31, he32, hcl33⟩ := t_call_Cdisk_change_do (x := (gt (List.take ((min (max keep 0) ((d.loose.length : Nat) : Int)).toNat) d.loose) i14).do_) (hx24 hl19).1.1 ho12 hz28
    refine e_call (is := [2]) rfl rfl (call_run_fv (caps := cp30) (args := #[.map (some m1_1)] ++ cp30) he32 rfl (Eq.trans (b := (Cdisk_change_do.val ((gt (List.take ((min (max keep 0) ((d.loose.length : Nat) : Int)).toNat) d.loose) i14).do_) A20 c21)) (by kernel_rfl) hv31) (by kernel_rfl)) rfl (fun w hp => (by exact hcl33 w hp)) ?_
    rintro Γ34 U36 v37 hl35 ⟨row38, rfl, rfl, hr39, _⟩
    change WR _ _ _ (CC F Γ34 [row38, [(g25, .cells #[(Cdisk_change_do.val ((gt (List.take ((min (max keep 0) ((d.loose.length : Nat) : Int)).toNat) d.loose) i14).do_) A20 c21), .string (gt (List.take ((min (max keep 0) ((d.loose.length : Nat) : Int)).toNat) d.loose) i14).name, .slice A22 ((gt (List.take ((min (max keep 0) ((d.loose.length : Nat) : Int)).toNat) d.loose) i14).tail).length c23] 68 (0, 0))], [(gd, .cells #[.int .i64 d.room, .map (some m1_1), .map (some m2_1), .slice A3_1 d.loose.length c3_1] ed (0, 0))], r2_1]) _ _ (upd _ 35 (.tuple #[]))
    refine WR.nil ?_
    refine WH.next (fun w hw => hw.back hl35 h026 (.cons _ (.cons_cons _ (.cons_cons _ (.cons _ .slnil))))) ?_
    refine WH.done (by kernel_rfl) ?_
    change WC _ _ _ _ _ _
    refine WC.region ?_
    refine va rfl rfl rfl (q_add_r (r := ((i14 + 1 : Nat) : Int)) rfl rfl rfl (ctr_len hl19 ((hs5.mono hl9).cut_to (hi := (min (max keep 0) ((d.loose.length : Nat) : Int)).toNat) (inle_le hk7)).le)) ?_
    refine va rfl rfl rfl (q_move (v := .int .i64 ((i14 + 1 : Nat) : Int)) rfl (by kernel_rfl)) ?_
    refine WR.nil ?_
    intro w hw
    exact ⟨hl19, z27, h, Γ34, row38, (sl_ (by kernel_rfl)), (hw.only (is := [2, 0, 1]) rfl), (hl9.trans hl35), hr39, trivial⟩
  · skip
    have h := hge17 (ige hb18)
    refine WC.exit ?_
    change WC _ _ _ _ _ _
    refine WC.cut (fun σ w => ∃ (m42 : List (ByteArray × (List UInt8))), ∃ (Γ40 : Gh), ∃ (row43 : Rowb), m_disk_Disk_Crash_j2 d m42 = some r ∧ slots σ [(0, .pointer (some ⟨gd, 0, none⟩))] ∧ CC F Γ40 [[(gd, .cells #[.int .i64 d.room, .map (some m1_1), .map (some m2_1), .slice A3_1 d.loose.length c3_1] ed (0, 0))], row43, r2_1] w ∧ Gh.le Γ8 Γ40 ∧ MapO (strK Try.underlying9) (slT byteT).v Γ40 row43 m1_1 m42 ∧ True) ?_ ?_
    · skip
      refine WC.rs ?_
      refine va rfl rfl rfl (q_move (v := .int .i64 (min (max keep 0) ((d.loose.length : Nat) : Int))) rfl (by kernel_rfl)) ?_
      refine va rfl rfl rfl (q_move (v := .pointer (some ⟨gd, 0, none⟩)) rfl (by kernel_rfl)) ?_
      refine va rfl rfl rfl (q_nil (A := some ⟨gd, 0, none⟩) rfl rfl rfl) ?_
      refine va rfl rfl rfl (q_fl 3 fld_61_3 rfl rfl rfl) ?_
      refine va rfl rfl rfl (q_ldl (i := 0) (v := .slice A3_1 d.loose.length c3_1) rfl rfl Try.isAgg59 rfl rfl) ?_
      refine va rfl rfl rfl (q_len_slice rfl Try.underlying59 rfl) ?_
      refine va rfl rfl rfl (q_lss rfl rfl rfl) ?_
      refine WR.nil ?_
      change WC _ _ _ _ _ _
      refine WC.cif h (by kernel_rfl) (fun hb45 h => ?_) (fun hb45 h => ?_)
      · skip
        refine WC.rs ?_
        refine va rfl rfl rfl (q_move (v := .pointer (some ⟨gd, 0, none⟩)) rfl (by kernel_rfl)) ?_
        refine va rfl rfl rfl (q_nil (A := some ⟨gd, 0, none⟩) rfl rfl rfl) ?_
        refine va rfl rfl rfl (q_fl 3 fld_61_3 rfl rfl rfl) ?_
        refine va rfl rfl rfl (q_ldl (i := 0) (v := .slice A3_1 d.loose.length c3_1) rfl rfl Try.isAgg59 rfl rfl) ?_
        refine va rfl rfl rfl (q_move (v := .int .i64 (min (max keep 0) ((d.loose.length : Nat) : Int))) rfl (by kernel_rfl)) ?_
        obtain ⟨hk46, h⟩ := chk_some h
        refine va rfl rfl rfl (q_ix Try.underlying59 Try.sizeOf68 rfl rfl rfl hk46 ((hs5.mono hl9).some_ (inb_lt hk46))) ?_
        obtain ⟨A47, c48, A49, c50, hx51⟩ := (hs5.mono hl9).ddisk_changeT_at ((min (max keep 0) ((d.loose.length : Nat) : Int)).toNat)
        refine va rfl rfl rfl (q_lda (c := 0) (vs := [(Cdisk_change_do.val ((gt d.loose ((min (max keep 0) ((d.loose.length : Nat) : Int)).toNat)).do_) A47 c48), .string (gt d.loose ((min (max keep 0) ((d.loose.length : Nat) : Int)).toNat)).name, .slice A49 ((gt d.loose ((min (max keep 0) ((d.loose.length : Nat) : Int)).toNat)).tail).length c50]) (hx51 (inb_lt hk46)).2 rfl Try.isAgg68 Try.sizeOf68 rfl rfl rfl) ?_
        refine e_alloc Try.zeroValue68 rfl rfl rfl rfl ?_
        intro g52
        refine e_st (i := 0) (v := .agg #[(Cdisk_change_do.val ((gt d.loose ((min (max keep 0) ((d.loose.length : Nat) : Int)).toNat)).do_) A47 c48), .string (gt d.loose ((min (max keep 0) ((d.loose.length : Nat) : Int)).toNat)).name, .slice A49 ((gt d.loose ((min (max keep 0) ((d.loose.length : Nat) : Int)).toNat)).tail).length c50]) (new := #[(Cdisk_change_do.val ((gt d.loose ((min (max keep 0) ((d.loose.length : Nat) : Int)).toNat)).do_) A47 c48), .string (gt d.loose ((min (max keep 0) ((d.loose.length : Nat) : Int)).toNat)).name, .slice A49 ((gt d.loose ((min (max keep 0) ((d.loose.length : Nat) : Int)).toNat)).tail).length c50]) rfl Try.sizeOf68 rfl rfl rfl rfl (by kernel_rfl) rfl rfl rfl rfl ?_
        refine WR.nil ?_
        change WC _ _ _ _ _ _
        refine WC.rs ?_
        refine va rfl rfl rfl (q_move (v := .int .i64 torn) rfl (by kernel_rfl)) ?_
        refine va rfl rfl rfl (q_max rfl rfl rfl) ?_
        refine va rfl rfl rfl (q_fl 2 fld_68_2 rfl rfl rfl) ?_
        refine va rfl rfl rfl (q_ldl (i := 0) (v := .slice A49 ((gt d.loose ((min (max keep 0) ((d.loose.length : Nat) : Int)).toNat)).tail).length c50) rfl rfl Try.isAgg22 rfl rfl) ?_
        refine va rfl rfl rfl (q_len_slice rfl Try.underlying22 rfl) ?_
        refine va rfl rfl rfl (q_min rfl rfl rfl) ?_
        refine va rfl rfl rfl (q_assign (v := .int .i64 (min (max torn 0) ((((gt d.loose ((min (max keep 0) ((d.loose.length : Nat) : Int)).toNat)).tail).length : Nat) : Int))) rfl (by kernel_rfl)) ?_
        refine WR.nil ?_
        change WC _ _ _ _ _ _
        refine WC.rs ?_
        refine va rfl rfl rfl (q_move (v := .int .i64 (min (max torn 0) ((((gt d.loose ((min (max keep 0) ((d.loose.length : Nat) : Int)).toNat)).tail).length : Nat) : Int))) rfl (by kernel_rfl)) ?_
        refine va rfl rfl rfl (q_gtr rfl rfl rfl) ?_
        refine WR.nil ?_
        change WC _ _ _ _ _ _
        refine WC.cif h (by kernel_rfl) (fun hb53 h => ?_) (fun hb53 h => ?_)
        · skip
          intro w hw; have h054 := hw.le
          refine WC.here (C := CC F Γ8 [[(g52, .cells #[(Cdisk_change_do.val ((gt d.loose ((min (max keep 0) ((d.loose.length : Nat) : Int)).toNat)).do_) A47 c48), .string (gt d.loose ((min (max keep 0) ((d.loose.length : Nat) : Int)).toNat)).name, .slice A49 ((gt d.loose ((min (max keep 0) ((d.loose.length : Nat) : Int)).toNat)).tail).length c50] 68 (0, 0))], [(gd, .cells #[.int .i64 d.room, .map (some m1_1), .map (some m2_1), .slice A3_1 d.loose.length c3_1] ed (0, 0))], row11, r2_1]) ?_ hw; clear hw
          refine WC.held (CC F Γ8 [[(g52, .cells #[(Cdisk_change_do.val ((gt d.loose ((min (max keep 0) ((d.loose.length : Nat) : Int)).toNat)).do_) A47 c48), .string (gt d.loose ((min (max keep 0) ((d.loose.length : Nat) : Int)).toNat)).name, .slice A49 ((gt d.loose ((min (max keep 0) ((d.loose.length : Nat) : Int)).toNat)).tail).length c50] 68 (0, 0))], [(gd, .cells #[.int .i64 d.room, .map (some m1_1), .map (some m2_1), .slice A3_1 d.loose.length c3_1] ed (0, 0))]]) (by kernel_rfl) (fun w hw => hw.drawn _) ?_
          change WH _ _ _ _ (CC F Γ8 [[(g52, .cells #[(Cdisk_change_do.val ((gt d.loose ((min (max keep 0) ((d.loose.length : Nat) : Int)).toNat)).do_) A47 c48), .string (gt d.loose ((min (max keep 0) ((d.loose.length : Nat) : Int)).toNat)).name, .slice A49 ((gt d.loose ((min (max keep 0) ((d.loose.length : Nat) : Int)).toNat)).tail).length c50] 68 (0, 0))], [(gd, .cells #[.int .i64 d.room, .map (some m1_1), .map (some m2_1), .slice A3_1 d.loose.length c3_1] ed (0, 0))], row11, r2_1]) _ 12 #[false, false, false, false, false, false, false, false, false, false, false, false] _
          refine ht (i := 0) rfl (by kernel_rfl) rfl rfl rfl (fun w hw => hw.back (Gh.refl _) h054 (.cons_cons _ (.cons_cons _ (.cons _ (.cons _ .slnil))))) (q_fl 1 fld_68_1 rfl rfl rfl) ?_
          refine ht (i := 1) rfl (by kernel_rfl) rfl rfl rfl (fun w hw => hw.back (Gh.refl _) h054 (.cons_cons _ (.cons_cons _ (.cons _ (.cons _ .slnil))))) (q_ldl (i := 0) (v := .string (gt d.loose ((min (max keep 0) ((d.loose.length : Nat) : Int)).toNat)).name) rfl rfl Try.isAgg9 rfl rfl) ?_
          refine ht (i := 2) rfl (by kernel_rfl) rfl rfl rfl (fun w hw => hw.back (Gh.refl _) h054 (.cons_cons _ (.cons_cons _ (.cons _ (.cons _ .slnil))))) (q_fl 2 fld_68_2 rfl rfl rfl) ?_
          refine ht (i := 3) rfl (by kernel_rfl) rfl rfl rfl (fun w hw => hw.back (Gh.refl _) h054 (.cons_cons _ (.cons_cons _ (.cons _ (.cons _ .slnil))))) (q_ldl (i := 0) (v := .slice A49 ((gt d.loose ((min (max keep 0) ((d.loose.length : Nat) : Int)).toNat)).tail).length c50) rfl rfl Try.isAgg22 rfl rfl) ?_
          refine ht (i := 4) rfl (by kernel_rfl) rfl rfl rfl (fun w hw => hw.back (Gh.refl _) h054 (.cons_cons _ (.cons_cons _ (.cons _ (.cons _ .slnil))))) (q_move (v := .int .i64 (min (max torn 0) ((((gt d.loose ((min (max keep 0) ((d.loose.length : Nat) : Int)).toNat)).tail).length : Nat) : Int))) rfl (by kernel_rfl)) ?_
          obtain ⟨hk55, h⟩ := chk_some h
          refine ht (i := 5) rfl (by kernel_rfl) rfl rfl rfl (fun w hw => hw.back (Gh.refl _) h054 (.cons_cons _ (.cons_cons _ (.cons _ (.cons _ .slnil))))) (q_cut_to (c := c50) (hi := (min (max torn 0) ((((gt d.loose ((min (max keep 0) ((d.loose.length : Nat) : Int)).toNat)).tail).length : Nat) : Int)).toNat) (xs := ((gt d.loose ((min (max keep 0) ((d.loose.length : Nat) : Int)).toNat)).tail)) Try.underlying22 Try.sizeOf5 rfl rfl (inle_eq rfl hk55) (inle_le hk55) (hx51 (inb_lt hk46)).1.2.2.1) ?_
          refine ht (i := 7) rfl (by kernel_rfl) rfl rfl rfl (fun w hw => hw.back (Gh.refl _) h054 (.cons_cons _ (.cons_cons _ (.cons _ (.cons _ .slnil))))) (q_move (v := .pointer (some ⟨gd, 0, none⟩)) rfl (by kernel_rfl)) ?_
          refine ht (i := 8) rfl (by kernel_rfl) rfl rfl rfl (fun w hw => hw.back (Gh.refl _) h054 (.cons_cons _ (.cons_cons _ (.cons _ (.cons _ .slnil))))) (q_nil (A := some ⟨gd, 0, none⟩) rfl rfl rfl) ?_
          refine ht (i := 9) rfl (by kernel_rfl) rfl rfl rfl (fun w hw => hw.back (Gh.refl _) h054 (.cons_cons _ (.cons_cons _ (.cons _ (.cons _ .slnil))))) (q_fl 1 fld_61_1 rfl rfl rfl) ?_
          refine ht (i := 10) rfl (by kernel_rfl) rfl rfl rfl (fun w hw => hw.back (Gh.refl _) h054 (.cons_cons _ (.cons_cons _ (.cons _ (.cons _ .slnil))))) (q_ldl (i := 1) (v := .map (some m1_1)) rfl rfl Try.isAgg58 rfl rfl) ?_
          refine WH.lone (i := 6) (by kernel_rfl) rfl ?_
          obtain ⟨z56, hz57, h⟩ := bnd h
          refine e_call (is := []) rfl rfl (call_run Try.call29 rfl rfl (by kernel_rfl)) rfl (fun w hp => t_disk_add ((gt d.loose ((min (max keep 0) ((d.loose.length : Nat) : Int)).toNat)).name) (hx51 (inb_lt hk46)).1.2.1 ((hx51 (inb_lt hk46)).1.2.2.2.cut_to (hi := (min (max torn 0) ((((gt d.loose ((min (max keep 0) ((d.loose.length : Nat) : Int)).toNat)).tail).length : Nat) : Int)).toNat) (inle_le hk55)) (take_cap (hx51 (inb_lt hk46)).1.2.2.1 ((min (max torn 0) ((((gt d.loose ((min (max keep 0) ((d.loose.length : Nat) : Int)).toNat)).tail).length : Nat) : Int)).toNat)) hp hz57) ?_
          rintro Γ58 U60 v61 hl59 ⟨A62, c63, rfl, rfl, hr64, _⟩
          change WR _ _ _ (CC F Γ58 [[(g52, .cells #[(Cdisk_change_do.val ((gt d.loose ((min (max keep 0) ((d.loose.length : Nat) : Int)).toNat)).do_) A47 c48), .string (gt d.loose ((min (max keep 0) ((d.loose.length : Nat) : Int)).toNat)).name, .slice A49 ((gt d.loose ((min (max keep 0) ((d.loose.length : Nat) : Int)).toNat)).tail).length c50] 68 (0, 0))], [(gd, .cells #[.int .i64 d.room, .map (some m1_1), .map (some m2_1), .slice A3_1 d.loose.length c3_1] ed (0, 0))], row11, r2_1]) _ _ (upd _ 65 ((Cdisk_change_do.val z56 A62 c63)))
          refine WR.nil ?_
          refine WH.next (fun w hw => hw.back hl59 h054 (.cons_cons _ (.cons_cons _ (.cons _ (.cons _ .slnil))))) ?_
          refine WH.lone (i := 11) (by kernel_rfl) rfl ?_
          obtain ⟨z65, hz66, h⟩ := bnd h
          obtain ⟨fd67, cp68, hv69, he70, hcl71⟩ := t_call_Cdisk_change_do (x := z56) hr64 (ho12.mono hl59) hz66
          refine e_call (is := [2]) rfl rfl (call_run_fv (caps := cp68) (args := #[.map (some m1_1)] ++ cp68) he70 rfl (Eq.trans (b := (Cdisk_change_do.val z56 A62 c63)) (by kernel_rfl) hv69) (by kernel_rfl)) rfl (fun w hp => (by exact hcl71 w hp)) ?_
          rintro Γ72 U74 v75 hl73 ⟨row76, rfl, rfl, hr77, _⟩
          change WR _ _ _ (CC F Γ72 [row76, [(g52, .cells #[(Cdisk_change_do.val ((gt d.loose ((min (max keep 0) ((d.loose.length : Nat) : Int)).toNat)).do_) A47 c48), .string (gt d.loose ((min (max keep 0) ((d.loose.length : Nat) : Int)).toNat)).name, .slice A49 ((gt d.loose ((min (max keep 0) ((d.loose.length : Nat) : Int)).toNat)).tail).length c50] 68 (0, 0))], [(gd, .cells #[.int .i64 d.room, .map (some m1_1), .map (some m2_1), .slice A3_1 d.loose.length c3_1] ed (0, 0))], r2_1]) _ _ (upd _ 70 (.tuple #[]))
          refine WR.nil ?_
          refine WH.next (fun w hw => hw.back (hl59.trans hl73) h054 (.cons _ (.cons_cons _ (.cons_cons _ (.cons _ .slnil))))) ?_
          refine WH.done (by kernel_rfl) ?_
          intro w hw
          exact ⟨z65, Γ72, row76, h, (sl_ (by kernel_rfl)), (hw.only (is := [2, 0, 1]) rfl), (hl59.trans hl73), hr77, trivial⟩
        · skip
          refine WC.skip ?_
          intro w hw
          exact ⟨m10, Γ8, row11, h, (sl_ (by kernel_rfl)), (hw.only (is := [1, 1, 1]) rfl), (Gh.refl _), ho12, trivial⟩
      · skip
        refine WC.skip ?_
        intro w hw
        exact ⟨m10, Γ8, row11, h, (sl_ (by kernel_rfl)), hw, (Gh.refl _), ho12, trivial⟩
    · skip
      rintro σ w ⟨m42, Γ40, row43, h, hsl, hw, hl41, ho44, -⟩
      refine Wpt.slots hsl ?_
      refine WC.here (C := CC F Γ40 [[(gd, .cells #[.int .i64 d.room, .map (some m1_1), .map (some m2_1), .slice A3_1 d.loose.length c3_1] ed (0, 0))], row43, r2_1]) ?_ hw
      clear hw hsl
      refine WC.rs ?_
      refine va rfl rfl rfl (q_move (v := .pointer (some ⟨gd, 0, none⟩)) rfl (by kernel_rfl)) ?_
      refine va rfl rfl rfl (q_move (v := .pointer (some ⟨gd, 0, none⟩)) rfl (by kernel_rfl)) ?_
      refine va rfl rfl rfl (q_nil (A := some ⟨gd, 0, none⟩) rfl rfl rfl) ?_
      refine va rfl rfl rfl (q_fl 1 fld_61_1 rfl rfl rfl) ?_
      refine va rfl rfl rfl (q_ldl (i := 0) (v := .map (some m1_1)) rfl rfl Try.isAgg58 rfl rfl) ?_
      refine e_clone clone30 (i := 1) rfl ho44 rfl rfl (call_run Try.call30 rfl rfl (by kernel_rfl)) ?_
      intro g78 row79 hm80
      change WR _ _ _ (CC F Γ40 [row79, [(gd, .cells #[.int .i64 d.room, .map (some m1_1), .map (some m2_1), .slice A3_1 d.loose.length c3_1] ed (0, 0))], row43, r2_1]) _ _ (upd _ 76 (.map (some g78)))
      refine va rfl rfl rfl (q_nil (A := some ⟨gd, 0, none⟩) rfl rfl rfl) ?_
      refine va rfl rfl rfl (q_fl 2 fld_61_2 rfl rfl rfl) ?_
      refine e_st (i := 1) (v := .map (some g78)) (new := #[.int .i64 d.room, .map (some m1_1), .map (some g78), .slice A3_1 d.loose.length c3_1]) rfl Try.sizeOf58 rfl rfl rfl rfl (by kernel_rfl) rfl rfl rfl rfl ?_
      refine WR.nil ?_
      change WC _ _ _ _ _ _
      refine WC.region ?_
      refine va rfl rfl rfl (q_move (v := .pointer (some ⟨gd, 0, none⟩)) rfl (by kernel_rfl)) ?_
      refine va rfl rfl rfl (q_nil (A := some ⟨gd, 0, none⟩) rfl rfl rfl) ?_
      refine va rfl rfl rfl (q_fl 3 fld_61_3 rfl rfl rfl) ?_
      refine e_st (i := 1) (v := .slice none 0 0) (new := #[.int .i64 d.room, .map (some m1_1), .map (some g78), .slice none 0 0]) rfl Try.sizeOf59 rfl rfl rfl rfl (by kernel_rfl) rfl rfl rfl rfl ?_
      refine WR.nil ?_
      intro w hw
      have hw := hw.pad
      obtain ⟨row_81, hrow_81, hob_81⟩ : ∃ rw : Rowb, rw = ([[(gd, .cells #[.int .i64 d.room, .map (some m1_1), .map (some g78), .slice none 0 0] ed (0, 0))], row43, row79, []] : List Rowb).flatten ∧ Odisk_Disk.ob ed Γ40 gd rw (⟨d.room, m42, m42, []⟩ : Odisk_Disk) := ⟨_, rfl, m1_1, row43, g78, row79, none, 0, [], rfl, ho0_1, ho44, hm80, (Own.nil ddisk_changeT Γ40 68), trivial⟩
      have hw := hw.fold (is := [2, 2, 1, 0]) rfl hrow_81
      obtain rfl := Option.some.inj h
      subst hF
      exact end_e (is := [0]) (by kernel_rfl) hw rfl ⟨row_81, rfl, rfl, hob_81, trivial⟩
abbrev r_disk_Disk_Read (gd ed : Nat) (rowd : Rowb) (r : (List UInt8) × Bool) (U : List Rowb) (Γ : Gh) (v : Value) : Prop := ∃ (A0 : Option Addr), ∃ (c0 : Nat), ∃ (row0 : Rowb), v = .tuple #[.slice A0 r.1.length c0, .bool r.2] ∧ U = [rowd, row0] ∧ Own byteT Γ 5 row0 A0 c0 r.1 ∧ True
set_option maxRecDepth 100000 in
set_option maxHeartbeats 400000 in
theorem t_disk_Disk_Read {Γ : Gh} {w0 : World} {gd ed : Nat} {rowd : Rowb} {d : Odisk_Disk} (hd : Odisk_Disk.ob ed Γ gd rowd d) (name : ByteArray) (hname : name.size ≤ lim) (hp : Pre [rowd] Γ w0) {r : (List UInt8) × Bool} (h : m_disk_Disk_Read d name = some r) : Calls Try.prog 12 #[.pointer (some ⟨gd, 0, none⟩), .string name] w0 (Outc Γ [rowd] w0 (r_disk_Disk_Read gd ed rowd r)) := by
  refine calls_of (N := 20) (rs := [4, 5]) (args := [.pointer (some ⟨gd, 0, none⟩), .string name]) Try.func12 rfl Try.ntmps12 Try.results12 rfl ?_
  obtain ⟨F, hF⟩ : ∃ F : Fm, F = ⟨ids [rowd], w0, Γ⟩ := ⟨_, rfl⟩
  refine WC.here (C := CC F Γ [rowd]) ?_ (hF ▸ hp.start)
  refine WC.rs ?_
  refine va rfl rfl rfl (q_assign (v := .slice none 0 0) rfl (by kernel_rfl)) ?_
  refine va rfl rfl rfl (q_assign (v := .bool false) rfl (by kernel_rfl)) ?_
  refine WR.nil ?_
  change WC _ _ _ _ _ _
  refine WC.rs ?_
  refine va rfl rfl rfl (q_move (v := .pointer (some ⟨gd, 0, none⟩)) rfl (by kernel_rfl)) ?_
  refine va rfl rfl rfl (q_nil (A := some ⟨gd, 0, none⟩) rfl rfl rfl) ?_
  refine va rfl rfl rfl (q_fl 2 fld_61_2 rfl rfl rfl) ?_
  have hq := hd
  obtain ⟨m1_1, r1_1, m2_1, r2_1, A3_1, c3_1, r3_1, hrow_1, ho0_1, ho1_1, ho2_1, ho3_1, -⟩ := hq
  intro w hw; have hw := hw.unfold (i := 0) rfl hrow_1
  refine WR.here (C := CC F Γ [[(gd, .cells #[.int .i64 d.room, .map (some m1_1), .map (some m2_1), .slice A3_1 d.loose.length c3_1] ed (0, 0))], r1_1, r2_1, r3_1]) ?_ hw
  clear hw
  refine va rfl rfl rfl (q_ldl (i := 0) (v := .map (some m2_1)) rfl rfl Try.isAgg58 rfl rfl) ?_
  refine va rfl rfl rfl (q_move (v := .string name) rfl (by kernel_rfl)) ?_
  obtain ⟨v2, ⟨A5, c6, hv3, hc7, hs8⟩, hat4⟩ := MapO.look ho2_1 name (z := .slice none 0 0) (zx := []) ⟨none, 0, rfl, Nat.zero_le _, Sl.nil _ _ _⟩
  obtain rfl : v2 = _ := List.cons.inj hv3 |>.1
  refine va rfl rfl rfl (q_lookup2 (v := .slice A5 ((mget name d.seen).getD []).length c6) hat4 rfl Try.underlying58 Try.zeroValue22 rfl rfl (i := 2) rfl) ?_
  refine va rfl rfl rfl (q_move (v := .tuple #[.slice A5 ((mget name d.seen).getD []).length c6, .bool ((mget name d.seen).isSome)]) rfl (by kernel_rfl)) ?_
  refine va rfl rfl rfl (q_extract (v := .slice A5 ((mget name d.seen).getD []).length c6) rfl rfl rfl) ?_
  refine va rfl rfl rfl (q_extract (v := .bool ((mget name d.seen).isSome)) rfl rfl rfl) ?_
  refine va rfl rfl rfl (q_assign (v := .slice A5 ((mget name d.seen).getD []).length c6) rfl (by kernel_rfl)) ?_
  refine va rfl rfl rfl (q_assign (v := .bool ((mget name d.seen).isSome)) rfl (by kernel_rfl)) ?_
  refine WR.nil ?_
  change WC _ _ _ _ _ _
  refine WC.rs ?_
  refine va rfl rfl rfl (q_move (v := .slice A5 ((mget name d.seen).getD []).length c6) rfl (by kernel_rfl)) ?_
  obtain ⟨z9, hz10, h⟩ := bnd h
  refine e_call (is := []) rfl rfl (call_run Try.call27 rfl rfl (by kernel_rfl)) rfl (fun w hp => t_slices_Clone_byte_byte hs8 hc7 hp hz10) ?_
  rintro Γ11 U13 v14 hl12 ⟨A15, c16, row17, rfl, rfl, hr18, _⟩
  change WR _ _ _ (CC F Γ11 [row17, [(gd, .cells #[.int .i64 d.room, .map (some m1_1), .map (some m2_1), .slice A3_1 d.loose.length c3_1] ed (0, 0))], r1_1, r2_1, r3_1]) _ _ (upd _ 18 (.slice A15 z9.length c16))
  refine va rfl rfl rfl (q_move (v := .bool ((mget name d.seen).isSome)) rfl (by kernel_rfl)) ?_
  refine va rfl rfl rfl (q_assign (v := .slice A15 z9.length c16) rfl (by kernel_rfl)) ?_
  refine va rfl rfl rfl (q_assign (v := .bool ((mget name d.seen).isSome)) rfl (by kernel_rfl)) ?_
  refine WR.nil ?_
  change WC _ _ _ _ _ _
  refine WC.ret ?_
  intro w hw
  have hw := hw.fold (is := [1, 1, 1, 1]) rfl hrow_1
  obtain rfl := Option.some.inj h
  subst hF
  exact end_e (is := [0, 0]) (by kernel_rfl) hw rfl ⟨A15, c16, row17, rfl, rfl, hr18, trivial⟩
abbrev r_disk_Disk_Names (gd ed : Nat) (rowd : Rowb) (r : List ByteArray) (U : List Rowb) (Γ : Gh) (v : Value) : Prop := ∃ (A0 : Option Addr), ∃ (c0 : Nat), ∃ (row0 : Rowb), v = .slice A0 r.length c0 ∧ U = [rowd, row0] ∧ Own strT Γ 9 row0 A0 c0 r ∧ True
set_option maxRecDepth 100000 in
set_option maxHeartbeats 400000 in
theorem t_disk_Disk_Names {Γ : Gh} {w0 : World} {gd ed : Nat} {rowd : Rowb} {d : Odisk_Disk} (hd : Odisk_Disk.ob ed Γ gd rowd d) (hp : Pre [rowd] Γ w0) {r : List ByteArray} (h : m_disk_Disk_Names d = some r) : Calls Try.prog 15 #[.pointer (some ⟨gd, 0, none⟩)] w0 (Outc Γ [rowd] w0 (r_disk_Disk_Names gd ed rowd r)) := by
  refine calls_of (N := 9) (rs := [2]) (args := [.pointer (some ⟨gd, 0, none⟩)]) Try.func15 rfl Try.ntmps15 Try.results15 rfl ?_
  obtain ⟨F, hF⟩ : ∃ F : Fm, F = ⟨ids [rowd], w0, Γ⟩ := ⟨_, rfl⟩
  refine WC.here (C := CC F Γ [rowd]) ?_ (hF ▸ hp.start)
  refine WC.rs ?_
  refine va rfl rfl rfl (q_assign (v := .slice none 0 0) rfl (by kernel_rfl)) ?_
  refine WR.nil ?_
  change WC _ _ _ _ _ _
  refine WC.rs ?_
  refine va rfl rfl rfl (q_move (v := .pointer (some ⟨gd, 0, none⟩)) rfl (by kernel_rfl)) ?_
  refine va rfl rfl rfl (q_nil (A := some ⟨gd, 0, none⟩) rfl rfl rfl) ?_
  refine va rfl rfl rfl (q_fl 2 fld_61_2 rfl rfl rfl) ?_
  have hq := hd
  obtain ⟨m1_1, r1_1, m2_1, r2_1, A3_1, c3_1, r3_1, hrow_1, ho0_1, ho1_1, ho2_1, ho3_1, -⟩ := hq
  intro w hw; have hw := hw.unfold (i := 0) rfl hrow_1
  refine WR.here (C := CC F Γ [[(gd, .cells #[.int .i64 d.room, .map (some m1_1), .map (some m2_1), .slice A3_1 d.loose.length c3_1] ed (0, 0))], r1_1, r2_1, r3_1]) ?_ hw
  clear hw
  refine va rfl rfl rfl (q_ldl (i := 0) (v := .map (some m2_1)) rfl rfl Try.isAgg58 rfl rfl) ?_
  refine e_keys (ρ := keys34_ren) keys34 (mb := some m2_1) rfl rfl (call_run Try.call34 rfl rfl (by kernel_rfl)) ?_
  intro g2
  change WR _ _ _ (CC F Γ [[(g2, .cells #[.map (some m2_1)] 58 (0, 0))], [(gd, .cells #[.int .i64 d.room, .map (some m1_1), .map (some m2_1), .slice A3_1 d.loose.length c3_1] ed (0, 0))], r1_1, r2_1, r3_1]) _ _ (upd _ 7 (.func (.func 51) #[] #[.pointer (some ⟨g2, 0, none⟩)]))
  obtain ⟨hk3, h⟩ := chk_some h
  refine e_call (is := [0, 2]) rfl rfl (call_run Try.call33 rfl rfl (by kernel_rfl)) rfl (fun w hp => sk33_34 ho2_1 (of_decide_eq_true hk3) hp) ?_
  rintro Γ4 U6 v7 hl5 ⟨A8, c9, row10, rfl, rfl, ho11⟩
  change WR _ _ _ (CC F Γ4 [[(g2, .cells #[.map (some m2_1)] 58 (0, 0))], r2_1, row10, [(gd, .cells #[.int .i64 d.room, .map (some m1_1), .map (some m2_1), .slice A3_1 d.loose.length c3_1] ed (0, 0))], r1_1, r3_1]) _ _ (upd _ 8 (.slice A8 (skeys d.seen).length c9))
  refine va rfl rfl rfl (q_assign (v := .slice A8 (skeys d.seen).length c9) rfl (by kernel_rfl)) ?_
  refine WR.nil ?_
  change WC _ _ _ _ _ _
  refine WC.ret ?_
  intro w hw
  have hw := hw.fold (is := [3, 3, 1, 2]) rfl hrow_1
  obtain rfl := Option.some.inj h
  subst hF
  exact end_e (is := [0, 1]) (by kernel_rfl) hw rfl ⟨A8, c9, row10, rfl, rfl, ho11, trivial⟩
set_option maxRecDepth 100000 in
set_option maxHeartbeats 400000 in
theorem t_firthlaw07_awake {Γ : Gh} {w0 : World}  (hs : Sat Γ w0) {r : Bool} (h : m_firthlaw07_awake = some r) : Calls Try.prog 9 #[] w0 (fun e w' => e = .returned (.bool r) ∧ Fr no w0 w') := by
  refine calls_of (N := 60) (rs := [0]) (args := []) Try.func9 rfl Try.ntmps9 Try.results9 rfl ?_
  obtain ⟨F, hF⟩ : ∃ F : Fm, F = ⟨no, w0, Γ⟩ := ⟨_, rfl⟩
  refine WC.here (C := CC F Γ []) ?_ (hF ▸ Cur.start0 hs)
  refine WC.rs ?_
  refine va rfl rfl rfl (q_assign (v := .bool false) rfl (by kernel_rfl)) ?_
  refine WR.nil ?_
  change WC _ _ _ _ _ _
  refine WC.rs ?_
  obtain ⟨z1, hz2, h⟩ := bnd h
  refine e_call (is := []) rfl rfl (call_run Try.call10 rfl rfl (by kernel_rfl)) rfl (fun w hp => t_disk_New 9 (show I64 9 by decide) hp hz2) ?_
  rintro Γ3 U5 v6 hl4 ⟨g7, row8, rfl, rfl, hr9, _⟩
  change WR _ _ _ (CC F Γ3 [row8]) _ _ (upd _ 7 (.pointer (some ⟨g7, 0, none⟩)))
  refine va rfl rfl rfl (q_assign (v := .pointer (some ⟨g7, 0, none⟩)) rfl (by kernel_rfl)) ?_
  refine WR.nil ?_
  change WC _ _ _ _ _ _
  refine WC.seq ?_
  refine WC.rs ?_
  refine va rfl rfl rfl (q_move (v := .pointer (some ⟨g7, 0, none⟩)) rfl (by kernel_rfl)) ?_
  refine va rfl rfl rfl (q_ptr_eql (a := some ⟨g7, 0, none⟩) Try.underlying24 rfl rfl rfl) ?_
  refine va rfl rfl rfl (q_move (v := .bool false) rfl (by kernel_rfl)) ?_
  refine WR.sat (c0 := true) (g := false) rfl rfl rfl (notf rfl) ?_
  refine va rfl rfl rfl (q_move (v := .pointer (some ⟨g7, 0, none⟩)) rfl (by kernel_rfl)) ?_
  refine WR.sat (c0 := true) (g := false) rfl rfl rfl (notf rfl) ?_
  refine e_buildSlice (cs := #[.int .u8 120, .int .u8 121]) (e := 5) rfl rfl rfl rfl (fun w => by kernel_rfl) ?_
  intro g10
  refine WR.sat (c0 := true) (g := false) rfl rfl rfl (notf rfl) ?_
  refine e_convlit (i := 0) (ys := ([120, 121] : List UInt8)) Try.underlying22 Try.underlying5 rfl rfl rfl (by decide) rfl rfl rfl rfl rfl ?_
  intro Γ11 hl12 hs13
  change WR _ _ _ (CC F Γ11 [[], row8]) _ _ (upd _ 13 (.slice (some ⟨g10, 0, none⟩) ([120, 121] : List UInt8).length 2))
  refine WR.sat (c0 := true) (g := false) rfl rfl rfl (notf rfl) ?_
  obtain ⟨z14, hz15, h⟩ := bnd h
  refine e_call (is := [1]) rfl rfl (call_run Try.call11 rfl rfl (by kernel_rfl)) rfl (fun w hp => t_disk_Disk_Append (hr9.mono hl12) ⟨#[97]⟩ (show (⟨#[97]⟩ : ByteArray).size ≤ lim by decide) hs13 (Nat.le_refl _) hp hz15) ?_
  rintro Γ16 U18 v19 hl17 ⟨row20, rfl, rfl, hr21, hr22, _⟩
  change WR _ _ _ (CC F Γ16 [row20, []]) _ _ (upd _ 14 (.int .i64 z14.2))
  refine WR.sat (c0 := true) (g := false) rfl rfl rfl (notf rfl) ?_
  refine va rfl rfl rfl (q_neq rfl rfl rfl) ?_
  refine va rfl rfl rfl (q_pickf (v := .bool (z14.2 != 0)) rfl rfl rfl) ?_
  refine WR.nil ?_
  change WC _ _ _ _ _ _
  refine WC.cif h (by kernel_rfl) (fun hb23 h => ?_) (fun hb23 h => ?_)
  · skip
    refine WC.rs ?_
    refine va rfl rfl rfl (q_assign (v := .bool false) rfl (by kernel_rfl)) ?_
    refine WR.nil ?_
    change WC _ _ _ _ _ _
    refine WC.ret ?_
    intro w hw
    obtain rfl := Option.some.inj h
    subst hF
    exact ⟨by kernel_rfl, hw.fr⟩
  · skip
    refine WC.skip ?_
    change WC _ _ _ _ _ _
    refine WC.rs ?_
    refine va rfl rfl rfl (q_move (v := .pointer (some ⟨g7, 0, none⟩)) rfl (by kernel_rfl)) ?_
    obtain ⟨z24, hz25, h⟩ := bnd h
    refine e_call (is := [0]) rfl rfl (call_run Try.call25 rfl rfl (by kernel_rfl)) rfl (fun w hp => t_disk_Disk_Sync hr21 hp hz25) ?_
    rintro Γ26 U28 v29 hl27 ⟨row30, rfl, rfl, hr31, _⟩
    change WR _ _ _ (CC F Γ26 [row30, []]) _ _ (upd _ 18 (.tuple #[]))
    refine WR.nil ?_
    change WC _ _ _ _ _ _
    refine WC.rs ?_
    refine va rfl rfl rfl (q_move (v := .pointer (some ⟨g7, 0, none⟩)) rfl (by kernel_rfl)) ?_
    refine e_buildSlice (cs := #[.int .u8 122, .int .u8 49]) (e := 5) rfl rfl rfl rfl (fun w => by kernel_rfl) ?_
    intro g32
    refine e_convlit (i := 0) (ys := ([122, 49] : List UInt8)) Try.underlying22 Try.underlying5 rfl rfl rfl (by decide) rfl rfl rfl rfl rfl ?_
    intro Γ33 hl34 hs35
    change WR _ _ _ (CC F Γ33 [[], row30, []]) _ _ (upd _ 21 (.slice (some ⟨g32, 0, none⟩) ([122, 49] : List UInt8).length 2))
    obtain ⟨z36, hz37, h⟩ := bnd h
    refine e_call (is := [1]) rfl rfl (call_run Try.call11 rfl rfl (by kernel_rfl)) rfl (fun w hp => t_disk_Disk_Append (hr31.mono hl34) ⟨#[97]⟩ (show (⟨#[97]⟩ : ByteArray).size ≤ lim by decide) hs35 (Nat.le_refl _) hp hz37) ?_
    rintro Γ38 U40 v41 hl39 ⟨row42, rfl, rfl, hr43, hr44, _⟩
    change WR _ _ _ (CC F Γ38 [row42, [], []]) _ _ (upd _ 22 (.int .i64 z36.2))
    refine va rfl rfl rfl (q_assign (v := .int .i64 z36.2) rfl (by kernel_rfl)) ?_
    refine WR.nil ?_
    change WC _ _ _ _ _ _
    refine WC.rs ?_
    refine va rfl rfl rfl (q_move (v := .pointer (some ⟨g7, 0, none⟩)) rfl (by kernel_rfl)) ?_
    refine e_buildSlice (cs := #[.int .u8 113]) (e := 5) rfl rfl rfl rfl (fun w => by kernel_rfl) ?_
    intro g45
    refine e_convlit (i := 0) (ys := ([113] : List UInt8)) Try.underlying22 Try.underlying5 rfl rfl rfl (by decide) rfl rfl rfl rfl rfl ?_
    intro Γ46 hl47 hs48
    change WR _ _ _ (CC F Γ46 [[], row42, [], []]) _ _ (upd _ 25 (.slice (some ⟨g45, 0, none⟩) ([113] : List UInt8).length 1))
    obtain ⟨z49, hz50, h⟩ := bnd h
    refine e_call (is := [1]) rfl rfl (call_run Try.call11 rfl rfl (by kernel_rfl)) rfl (fun w hp => t_disk_Disk_Append (hr43.mono hl47) ⟨#[98]⟩ (show (⟨#[98]⟩ : ByteArray).size ≤ lim by decide) hs48 (Nat.le_refl _) hp hz50) ?_
    rintro Γ51 U53 v54 hl52 ⟨row55, rfl, rfl, hr56, hr57, _⟩
    change WR _ _ _ (CC F Γ51 [row55, [], [], []]) _ _ (upd _ 26 (.int .i64 z49.2))
    refine va rfl rfl rfl (q_assign (v := .int .i64 z49.2) rfl (by kernel_rfl)) ?_
    refine WR.nil ?_
    change WC _ _ _ _ _ _
    refine WC.rs ?_
    refine va rfl rfl rfl (q_move (v := .pointer (some ⟨g7, 0, none⟩)) rfl (by kernel_rfl)) ?_
    obtain ⟨z58, hz59, h⟩ := bnd h
    refine vc rfl rfl rfl (q_call (call_run Try.call17 rfl rfl (by kernel_rfl)) (fun w hw => t_disk_Disk_Loose (Γ := Gh.all w) (hr56.mono hw.sat.le_all) (hw.ra 0 rfl) (Sat.all w) hz59)) ?_
    refine va rfl rfl rfl (q_assign (v := .int .i64 z58) rfl (by kernel_rfl)) ?_
    refine WR.nil ?_
    change WC _ _ _ _ _ _
    refine WC.rs ?_
    refine va rfl rfl rfl (q_move (v := .pointer (some ⟨g7, 0, none⟩)) rfl (by kernel_rfl)) ?_
    obtain ⟨z60, hz61, h⟩ := bnd h
    refine e_call (is := [0]) rfl rfl (call_run Try.call13 rfl rfl (by kernel_rfl)) rfl (fun w hp => t_disk_Disk_Crash hr56 0 (show I64 0 by decide) 1 (show I64 1 by decide) hp hz61) ?_
    rintro Γ62 U64 v65 hl63 ⟨row66, rfl, rfl, hr67, _⟩
    change WR _ _ _ (CC F Γ62 [row66, [], [], []]) _ _ (upd _ 30 (.tuple #[]))
    refine WR.nil ?_
    change WC _ _ _ _ _ _
    refine WC.rs ?_
    refine va rfl rfl rfl (q_move (v := .pointer (some ⟨g7, 0, none⟩)) rfl (by kernel_rfl)) ?_
    obtain ⟨z68, hz69, h⟩ := bnd h
    refine e_call (is := [0]) rfl rfl (call_run Try.call12 rfl rfl (by kernel_rfl)) rfl (fun w hp => t_disk_Disk_Read hr67 ⟨#[97]⟩ (show (⟨#[97]⟩ : ByteArray).size ≤ lim by decide) hp hz69) ?_
    rintro Γ70 U72 v73 hl71 ⟨A74, c75, row76, rfl, rfl, hr77, _⟩
    change WR _ _ _ (CC F Γ70 [row66, row76, [], [], []]) _ _ (upd _ 33 (.tuple #[.slice A74 z68.1.length c75, .bool z68.2]))
    refine va rfl rfl rfl (q_move (v := .tuple #[.slice A74 z68.1.length c75, .bool z68.2]) rfl (by kernel_rfl)) ?_
    refine va rfl rfl rfl (q_extract (v := .slice A74 z68.1.length c75) rfl rfl rfl) ?_
    refine va rfl rfl rfl (q_extract (v := .bool z68.2) rfl rfl rfl) ?_
    refine va rfl rfl rfl (q_assign (v := .slice A74 z68.1.length c75) rfl (by kernel_rfl)) ?_
    refine va rfl rfl rfl (q_assign (v := .bool z68.2) rfl (by kernel_rfl)) ?_
    refine WR.nil ?_
    change WC _ _ _ _ _ _
    refine WC.rs ?_
    refine va rfl rfl rfl (q_move (v := .int .i64 z36.2) rfl (by kernel_rfl)) ?_
    refine va rfl rfl rfl (q_eql rfl rfl rfl) ?_
    refine va rfl rfl rfl (q_move (v := .bool (z36.2 == 0)) rfl (by kernel_rfl)) ?_
    refine vg1 rfl rfl rfl rfl rfl (fun hg78 => QV.qo (q_move (v := .int .i64 z49.2) rfl (by kernel_rfl))) ?_
    refine vg1 rfl rfl rfl rfl rfl (fun hg79 => QV.qo (q_eql rfl (gu hg79 rfl) rfl)) ?_
    refine va rfl rfl rfl (q_pick rfl rfl (pk_and' (g := (z36.2 == 0)) (y := (z49.2 == 0)))) ?_
    refine va rfl rfl rfl (q_move (v := .bool ((z36.2 == 0) && (z49.2 == 0))) rfl (by kernel_rfl)) ?_
    refine vg1 rfl rfl rfl rfl rfl (fun hg80 => QV.qo (q_move (v := .int .i64 z58) rfl (by kernel_rfl))) ?_
    refine vg1 rfl rfl rfl rfl rfl (fun hg81 => QV.qo (q_eql rfl (gu hg81 rfl) rfl)) ?_
    refine va rfl rfl rfl (q_pick rfl rfl (pk_and' (g := ((z36.2 == 0) && (z49.2 == 0))) (y := (z58 == 2)))) ?_
    refine va rfl rfl rfl (q_move (v := .bool (((z36.2 == 0) && (z49.2 == 0)) && (z58 == 2))) rfl (by kernel_rfl)) ?_
    refine vg1 rfl rfl rfl rfl rfl (fun hg82 => QV.qo (q_move (v := .bool z68.2) rfl (by kernel_rfl))) ?_
    refine va rfl rfl rfl (q_pick rfl rfl (pk_and' (g := (((z36.2 == 0) && (z49.2 == 0)) && (z58 == 2))) (y := z68.2))) ?_
    refine va rfl rfl rfl (q_move (v := .bool ((((z36.2 == 0) && (z49.2 == 0)) && (z58 == 2)) && z68.2)) rfl (by kernel_rfl)) ?_
    refine vg1 rfl rfl rfl rfl rfl (fun hg83 => QV.qo (q_move (v := .slice A74 z68.1.length c75) rfl (by kernel_rfl))) ?_
    refine vg1 rfl rfl rfl rfl rfl (fun hg84 => QV.qo (q_bstro (i := 1) rfl hr77 Try.underlying22 Try.underlying5 Try.underlying9 rfl (gu hg84 rfl))) ?_
    refine vg1 rfl rfl rfl rfl rfl (fun hg85 => QV.qo (q_seql rfl (gu hg85 rfl) rfl)) ?_
    refine va rfl rfl rfl (q_pick rfl rfl (pk_and' (g := ((((z36.2 == 0) && (z49.2 == 0)) && (z58 == 2)) && z68.2)) (y := ((⟨z68.1.toArray⟩ : ByteArray) == ⟨#[120, 121, 122]⟩)))) ?_
    refine va rfl rfl rfl (q_move (v := .bool (((((z36.2 == 0) && (z49.2 == 0)) && (z58 == 2)) && z68.2) && ((⟨z68.1.toArray⟩ : ByteArray) == ⟨#[120, 121, 122]⟩))) rfl (by kernel_rfl)) ?_
    refine vg1 rfl rfl rfl rfl rfl (fun hg86 => QV.qo (q_move (v := .pointer (some ⟨g7, 0, none⟩)) rfl (by kernel_rfl))) ?_
    refine (Bool.eq_false_or_eq_true (((((z36.2 == 0) && (z49.2 == 0)) && (z58 == 2)) && z68.2) && ((⟨z68.1.toArray⟩ : ByteArray) == ⟨#[120, 121, 122]⟩))).elim (fun hb87 => ?_) (fun hb87 => ?_)
    · skip
      have h := bt hb87 h
      refine WR.sat (c0 := true) (g := (((((z36.2 == 0) && (z49.2 == 0)) && (z58 == 2)) && z68.2) && ((⟨z68.1.toArray⟩ : ByteArray) == ⟨#[120, 121, 122]⟩))) rfl rfl rfl hb87 ?_
      obtain ⟨z88, hz89, h⟩ := bnd h
      refine e_call (is := [0]) rfl rfl (call_run Try.call15 rfl rfl (args1 (gu hb87 rfl))) rfl (fun w hp => t_disk_Disk_Names (hr67.mono hl71) hp hz89) ?_
      rintro Γ90 U92 v93 hl91 ⟨A94, c95, row96, rfl, rfl, hr97, _⟩
      change WR _ _ _ (CC F Γ90 [row66, row96, row76, [], [], []]) _ _ (upd _ 56 (.slice A94 z88.length c95))
      refine WR.sat (c0 := true) (g := (((((z36.2 == 0) && (z49.2 == 0)) && (z58 == 2)) && z68.2) && ((⟨z68.1.toArray⟩ : ByteArray) == ⟨#[120, 121, 122]⟩))) rfl rfl rfl hb87 ?_
      refine va rfl rfl rfl (q_len_slice rfl Try.underlying33 rfl) ?_
      refine WR.sat (c0 := true) (g := (((((z36.2 == 0) && (z49.2 == 0)) && (z58 == 2)) && z68.2) && ((⟨z68.1.toArray⟩ : ByteArray) == ⟨#[120, 121, 122]⟩))) rfl rfl rfl hb87 ?_
      refine va rfl rfl rfl (q_eql rfl rfl rfl) ?_
      refine va rfl rfl rfl (q_pick_t (v := .bool (((z88.length : Nat) : Int) == 1)) rfl rfl hb87 (by kernel_rfl)) ?_
      refine va rfl rfl rfl (q_assign (v := .bool (((z88.length : Nat) : Int) == 1)) rfl (by kernel_rfl)) ?_
      refine WR.nil ?_
      change WC _ _ _ _ _ _
      refine WC.ret ?_
      intro w hw
      obtain rfl := Option.some.inj h
      subst hF
      exact ⟨by kernel_rfl, hw.fr⟩
    · skip
      have h := bf hb87 h
      refine WR.unsat (c0 := true) (g := (((((z36.2 == 0) && (z49.2 == 0)) && (z58 == 2)) && z68.2) && ((⟨z68.1.toArray⟩ : ByteArray) == ⟨#[120, 121, 122]⟩))) rfl rfl rfl hb87 rfl ?_
      refine WR.unsat (c0 := true) (g := (((((z36.2 == 0) && (z49.2 == 0)) && (z58 == 2)) && z68.2) && ((⟨z68.1.toArray⟩ : ByteArray) == ⟨#[120, 121, 122]⟩))) rfl rfl rfl hb87 rfl ?_
      refine WR.unsat (c0 := true) (g := (((((z36.2 == 0) && (z49.2 == 0)) && (z58 == 2)) && z68.2) && ((⟨z68.1.toArray⟩ : ByteArray) == ⟨#[120, 121, 122]⟩))) rfl rfl rfl hb87 rfl ?_
      refine va rfl rfl rfl (q_pick_f (v := .bool false) rfl rfl hb87 (by kernel_rfl)) ?_
      refine va rfl rfl rfl (q_assign (v := .bool false) rfl (by kernel_rfl)) ?_
      refine WR.nil ?_
      change WC _ _ _ _ _ _
      refine WC.ret ?_
      intro w hw
      obtain rfl := Option.some.inj h
      subst hF
      exact ⟨by kernel_rfl, hw.fr⟩
set_option maxRecDepth 100000 in
set_option maxHeartbeats 400000 in
theorem t_disk_Disk_there {Γ : Gh} {w0 : World} {gd ed : Nat} {rowd : Rowb} {d : Odisk_Disk} (hd : Odisk_Disk.ob ed Γ gd rowd d) (hdr : ∀ p ∈ rowd, Γ p.1 = some p.2) (name : ByteArray) (hname : name.size ≤ lim) (hs : Sat Γ w0) {r : Int} (h : m_disk_Disk_there d name = some r) : Calls Try.prog 31 #[.pointer (some ⟨gd, 0, none⟩), .string name] w0 (fun e w' => e = .returned (.int .i64 r) ∧ Fr no w0 w') := by
  refine calls_of (N := 22) (rs := [4]) (args := [.pointer (some ⟨gd, 0, none⟩), .string name]) Try.func31 rfl Try.ntmps31 Try.results31 rfl ?_
  obtain ⟨F, hF⟩ : ∃ F : Fm, F = ⟨no, w0, Γ⟩ := ⟨_, rfl⟩
  refine WC.here (C := CC F Γ []) ?_ (hF ▸ Cur.start0 hs)
  refine WC.rs ?_
  refine va rfl rfl rfl (q_assign (v := .int .i64 0) rfl (by kernel_rfl)) ?_
  refine WR.nil ?_
  change WC _ _ _ _ _ _
  refine WC.seq ?_
  refine WC.rs ?_
  refine va rfl rfl rfl (q_move (v := .string name) rfl (by kernel_rfl)) ?_
  refine e_buildSlice (cs := #[.string name]) (e := 9) rfl rfl rfl rfl (fun w => by kernel_rfl) ?_
  intro g1
  have ho2 : Own strT Γ 9 [(g1, .cells #[.string name] 9 (0, 0))] (some ⟨g1, 0, none⟩) 1 [name] := Own.of_block (T := strT) (ys := [name]) [[.string name]] rfl rfl (show 1 ≤ lim by decide) (fun i h => match i, h with | 0, _ => (show Ty.rd strT Γ [.string name] name from ⟨rfl, hname⟩))
  obtain ⟨z3, hz4, h⟩ := bnd h
  refine vc rfl rfl rfl (q_call (call_run Try.call26 rfl rfl (by kernel_rfl)) (fun w hw => t_disk_right (Γ := Gh.all w) (ho2.sl hw.sat.le_all (hw.ra 0 rfl)) ho2.capz (Sat.all w) hz4)) ?_
  refine va rfl rfl rfl (q_not rfl rfl) ?_
  refine WR.nil ?_
  change WC _ _ _ _ _ _
  refine WC.cif h (by kernel_rfl) (fun hb5 h => ?_) (fun hb5 h => ?_)
  · skip
    refine WC.rs ?_
    refine va rfl rfl rfl (q_assign (v := .int .i64 70) rfl (by kernel_rfl)) ?_
    refine WR.nil ?_
    change WC _ _ _ _ _ _
    refine WC.ret ?_
    intro w hw
    obtain rfl := Option.some.inj h
    subst hF
    exact ⟨by kernel_rfl, hw.fr⟩
  · skip
    refine WC.skip ?_
    change WC _ _ _ _ _ _
    refine WC.seq ?_
    refine WC.rs ?_
    refine va rfl rfl rfl (q_move (v := .pointer (some ⟨gd, 0, none⟩)) rfl (by kernel_rfl)) ?_
    refine va rfl rfl rfl (q_nil (A := some ⟨gd, 0, none⟩) rfl rfl rfl) ?_
    refine va rfl rfl rfl (q_fl 2 fld_61_2 rfl rfl rfl) ?_
    have hq := hd
    obtain ⟨m1_6, r1_6, m2_6, r2_6, A3_6, c3_6, r3_6, hrow_6, ho0_6, ho1_6, ho2_6, ho3_6, -⟩ := hq
    have hg_7 : ∀ u ∈ ([[(gd, .cells #[.int .i64 d.room, .map (some m1_6), .map (some m2_6), .slice A3_6 d.loose.length c3_6] ed (0, 0))], r1_6, r2_6, r3_6] : List Rowb), ∀ p ∈ u, Γ p.1 = some p.2 := fun u hu p hp => (fun p hp => (hdr p hp)) p (hrow_6 ▸ List.mem_flatten.2 ⟨u, hu, hp⟩)
    have hgc8 := hg_7 _ (List.mem_cons_self ..) (gd, _) (List.mem_singleton.2 rfl)
    have hgs9 := hg_7 r1_6 (by simp)
    have hgs10 := hg_7 r2_6 (by simp)
    have hgs11 := hg_7 r3_6 (by simp)
    have hs12 := ho3_6.sl (Gh.refl _) hgs11
    refine va rfl rfl rfl (q_ldg (v := .map (some m2_6)) hgc8 rfl Try.isAgg58 rfl rfl) ?_
    refine va rfl rfl rfl (q_move (v := .string name) rfl (by kernel_rfl)) ?_
    obtain ⟨v13, ⟨A16, c17, hv14, hc18, hs19⟩, hat15⟩ := MapO.look ho2_6 name (z := .slice none 0 0) (zx := []) ⟨none, 0, rfl, Nat.zero_le _, Sl.nil _ _ _⟩
    obtain rfl : v13 = _ := List.cons.inj hv14 |>.1
    refine va rfl rfl rfl (q_lookup2g (v := .slice A16 ((mget name d.seen).getD []).length c17) (fun p hp => (hgs10 p hp)) hat15 rfl Try.underlying58 Try.zeroValue22 rfl rfl) ?_
    refine va rfl rfl rfl (q_move (v := .tuple #[.slice A16 ((mget name d.seen).getD []).length c17, .bool ((mget name d.seen).isSome)]) rfl (by kernel_rfl)) ?_
    refine va rfl rfl rfl (q_extract (v := .slice A16 ((mget name d.seen).getD []).length c17) rfl rfl rfl) ?_
    refine va rfl rfl rfl (q_extract (v := .bool ((mget name d.seen).isSome)) rfl rfl rfl) ?_
    refine va rfl rfl rfl (q_assign (v := .slice A16 ((mget name d.seen).getD []).length c17) rfl (by kernel_rfl)) ?_
    refine va rfl rfl rfl (q_assign (v := .bool ((mget name d.seen).isSome)) rfl (by kernel_rfl)) ?_
    refine WR.nil ?_
    change WC _ _ _ _ _ _
    refine WC.rs ?_
    refine va rfl rfl rfl (q_move (v := .bool ((mget name d.seen).isSome)) rfl (by kernel_rfl)) ?_
    refine va rfl rfl rfl (q_not rfl rfl) ?_
    refine WR.nil ?_
    change WC _ _ _ _ _ _
    refine WC.cif h (by kernel_rfl) (fun hb20 h => ?_) (fun hb20 h => ?_)
    · skip
      refine WC.rs ?_
      refine va rfl rfl rfl (q_assign (v := .int .i64 71) rfl (by kernel_rfl)) ?_
      refine WR.nil ?_
      change WC _ _ _ _ _ _
      refine WC.ret ?_
      intro w hw
      obtain rfl := Option.some.inj h
      subst hF
      exact ⟨by kernel_rfl, hw.fr⟩
    · skip
      refine WC.skip ?_
      change WC _ _ _ _ _ _
      refine WC.rs ?_
      refine va rfl rfl rfl (q_assign (v := .int .i64 0) rfl (by kernel_rfl)) ?_
      refine WR.nil ?_
      change WC _ _ _ _ _ _
      refine WC.ret ?_
      intro w hw
      obtain rfl := Option.some.inj h
      subst hF
      exact ⟨by kernel_rfl, hw.fr⟩
abbrev r_disk_Disk_Rename (gd ed : Nat) (r : Odisk_Disk × Int) (U : List Rowb) (Γ : Gh) (v : Value) : Prop := ∃ (rowd' : Rowb), v = .int .i64 r.2 ∧ U = [rowd'] ∧ Odisk_Disk.ob ed Γ gd rowd' r.1 ∧ I64 r.2 ∧ True
set_option maxRecDepth 100000 in
set_option maxHeartbeats 400000 in
theorem t_disk_Disk_Rename {Γ : Gh} {w0 : World} {gd ed : Nat} {rowd : Rowb} {d : Odisk_Disk} (hd : Odisk_Disk.ob ed Γ gd rowd d) (from_ : ByteArray) (hfrom_ : from_.size ≤ lim) (to_ : ByteArray) (hto_ : to_.size ≤ lim) (hp : Pre [rowd] Γ w0) {r : Odisk_Disk × Int} (h : m_disk_Disk_Rename d from_ to_ = some r) : Calls Try.prog 14 #[.pointer (some ⟨gd, 0, none⟩), .string from_, .string to_] w0 (Outc Γ [rowd] w0 (r_disk_Disk_Rename gd ed r)) := by
  refine calls_of (N := 23) (rs := [6]) (args := [.pointer (some ⟨gd, 0, none⟩), .string from_, .string to_]) Try.func14 rfl Try.ntmps14 Try.results14 rfl ?_
  obtain ⟨F, hF⟩ : ∃ F : Fm, F = ⟨ids [rowd], w0, Γ⟩ := ⟨_, rfl⟩
  refine WC.here (C := CC F Γ [rowd]) ?_ (hF ▸ hp.start)
  refine WC.rs ?_
  refine e_box (v := .string from_) rfl rfl rfl rfl (by kernel_rfl) ?_
  intro g1
  refine e_box (v := .string to_) rfl rfl rfl rfl (by kernel_rfl) ?_
  intro g2
  refine va rfl rfl rfl (q_assign (v := .int .i64 0) rfl (by kernel_rfl)) ?_
  refine WR.nil ?_
  change WC _ _ _ _ _ _
  refine WC.seq ?_
  refine WC.rs ?_
  refine va rfl rfl rfl (q_ldl (i := 1) (v := .string from_) rfl rfl Try.isAgg9 rfl rfl) ?_
  refine va rfl rfl rfl (q_ldl (i := 0) (v := .string to_) rfl rfl Try.isAgg9 rfl rfl) ?_
  refine e_buildSlice (cs := #[.string from_, .string to_]) (e := 9) rfl rfl rfl rfl (fun w => by kernel_rfl) ?_
  intro g3
  have ho4 : Own strT Γ 9 [(g3, .cells #[.string from_, .string to_] 9 (0, 0))] (some ⟨g3, 0, none⟩) 2 [from_, to_] := Own.of_block (T := strT) (ys := [from_, to_]) [[.string from_], [.string to_]] rfl rfl (show 2 ≤ lim by decide) (fun i h => match i, h with | 0, _ => (show Ty.rd strT Γ [.string from_] from_ from ⟨rfl, hfrom_⟩) | 1, _ => (show Ty.rd strT Γ [.string to_] to_ from ⟨rfl, hto_⟩))
  obtain ⟨z5, hz6, h⟩ := bnd h
  refine vc rfl rfl rfl (q_call (call_run Try.call26 rfl rfl (by kernel_rfl)) (fun w hw => t_disk_right (Γ := Gh.all w) (ho4.sl hw.sat.le_all (hw.ra 0 rfl)) ho4.capz (Sat.all w) hz6)) ?_
  refine va rfl rfl rfl (q_not rfl rfl) ?_
  refine WR.nil ?_
  change WC _ _ _ _ _ _
  refine WC.cif h (by kernel_rfl) (fun hb7 h => ?_) (fun hb7 h => ?_)
  · skip
    refine WC.rs ?_
    refine va rfl rfl rfl (q_assign (v := .int .i64 70) rfl (by kernel_rfl)) ?_
    refine WR.nil ?_
    change WC _ _ _ _ _ _
    refine WC.ret ?_
    intro w hw
    obtain rfl := Option.some.inj h
    subst hF
    exact end_e (is := [3]) (by kernel_rfl) hw rfl ⟨rowd, rfl, rfl, hd, (show I64 70 by decide), trivial⟩
  · skip
    refine WC.skip ?_
    change WC _ _ _ _ _ _
    refine WC.seq ?_
    refine WC.rs ?_
    refine va rfl rfl rfl (q_move (v := .pointer (some ⟨gd, 0, none⟩)) rfl (by kernel_rfl)) ?_
    refine va rfl rfl rfl (q_ldl (i := 2) (v := .string from_) rfl rfl Try.isAgg9 rfl rfl) ?_
    obtain ⟨z8, hz9, h⟩ := bnd h
    refine vc rfl rfl rfl (q_call (call_run Try.call31 rfl rfl (by kernel_rfl)) (fun w hw => t_disk_Disk_there (Γ := Gh.all w) (hd.mono hw.sat.le_all) (hw.ra 3 rfl) from_ hfrom_ (Sat.all w) hz9)) ?_
    refine va rfl rfl rfl (q_assign (v := .int .i64 z8) rfl (by kernel_rfl)) ?_
    refine WR.nil ?_
    change WC _ _ _ _ _ _
    refine WC.rs ?_
    refine va rfl rfl rfl (q_move (v := .int .i64 z8) rfl (by kernel_rfl)) ?_
    refine va rfl rfl rfl (q_neq rfl rfl rfl) ?_
    refine WR.nil ?_
    change WC _ _ _ _ _ _
    refine WC.cif h (by kernel_rfl) (fun hb10 h => ?_) (fun hb10 h => ?_)
    · skip
      refine WC.rs ?_
      refine va rfl rfl rfl (q_move (v := .int .i64 z8) rfl (by kernel_rfl)) ?_
      refine va rfl rfl rfl (q_assign (v := .int .i64 z8) rfl (by kernel_rfl)) ?_
      refine WR.nil ?_
      change WC _ _ _ _ _ _
      refine WC.ret ?_
      intro w hw
      obtain ⟨hk11, h⟩ := chk_some h
      obtain rfl := Option.some.inj h
      subst hF
      exact end_e (is := [3]) (by kernel_rfl) hw rfl ⟨rowd, rfl, rfl, hd, (i64b_of hk11), trivial⟩
    · skip
      refine WC.skip ?_
      change WC _ _ _ _ _ _
      refine WC.rs ?_
      refine va rfl rfl rfl (q_move (v := .pointer (some ⟨gd, 0, none⟩)) rfl (by kernel_rfl)) ?_
      refine va rfl rfl rfl (q_mkfn (v := .func (.func 32) #[] #[.pointer (some ⟨g1, 0, none⟩), .pointer (some ⟨g2, 0, none⟩)]) rfl (by kernel_rfl)) ?_
      refine va rfl rfl rfl (q_build' (v := .agg #[.func (.func 32) #[] #[.pointer (some ⟨g1, 0, none⟩), .pointer (some ⟨g2, 0, none⟩)], .string ByteArray.empty, .slice none 0 0]) rfl (bargs1 rfl) (fun w => by kernel_rfl)) ?_
      intro w hw; obtain ⟨Γ12, hw, hl13, hr14⟩ := hw.seal (i := 2) rfl
      have hg15 := hr14 _ (List.mem_singleton.2 rfl)
      refine WR.here (C := CC F Γ12 [[(g3, .cells #[.string from_, .string to_] 9 (0, 0))], [(g2, .cells #[.string to_] 9 (0, 0))], [], rowd]) ?_ hw
      clear hw
      intro w hw; obtain ⟨Γ16, hw, hl17, hr18⟩ := hw.seal (i := 1) rfl
      have hg19 := hr18 _ (List.mem_singleton.2 rfl)
      refine WR.here (C := CC F Γ16 [[(g3, .cells #[.string from_, .string to_] 9 (0, 0))], [], [], rowd]) ?_ hw
      clear hw
      have hf20 : Cdisk_change_do.ok Γ16 (some ⟨g2, 0, none⟩) g1 (Cdisk_change_do.disk_Disk_Rename_1 from_ to_) := ⟨⟨(hl17 _ _ hg15), hfrom_⟩, ⟨g2, rfl, hg19, hto_⟩, trivial⟩
      obtain ⟨z21, hz22, h⟩ := bnd h
      refine e_call (is := [3]) rfl rfl (call_run Try.call28 rfl rfl (by kernel_rfl)) rfl (fun w hp => t_disk_Disk_done (hd.mono (hl13.trans hl17)) (Ac_2 := none) (cc_2 := 0) (⟨(Cdisk_change_do.disk_Disk_Rename_1 from_ to_), ByteArray.empty, []⟩ : Ddisk_change) ⟨hf20, (show (ByteArray.empty : ByteArray).size ≤ lim by decide), ⟨Nat.zero_le _, Sl.nil _ _ _⟩⟩ hp hz22) ?_
      rintro Γ23 U25 v26 hl24 ⟨row27, rfl, rfl, hr28, hr29, _⟩
      change WR _ _ _ (CC F Γ23 [row27, [(g3, .cells #[.string from_, .string to_] 9 (0, 0))], [], []]) _ _ (upd _ 22 (.int .i64 z21.2))
      refine va rfl rfl rfl (q_assign (v := .int .i64 z21.2) rfl (by kernel_rfl)) ?_
      refine WR.nil ?_
      change WC _ _ _ _ _ _
      refine WC.ret ?_
      intro w hw
      obtain rfl := Option.some.inj h
      subst hF
      exact end_e (is := [0]) (by kernel_rfl) hw rfl ⟨row27, rfl, rfl, hr28, hr29, trivial⟩
abbrev r_disk_Disk_Remove (gd ed : Nat) (r : Odisk_Disk × Int) (U : List Rowb) (Γ : Gh) (v : Value) : Prop := ∃ (rowd' : Rowb), v = .int .i64 r.2 ∧ U = [rowd'] ∧ Odisk_Disk.ob ed Γ gd rowd' r.1 ∧ I64 r.2 ∧ True
set_option maxRecDepth 100000 in
set_option maxHeartbeats 400000 in
theorem t_disk_Disk_Remove {Γ : Gh} {w0 : World} {gd ed : Nat} {rowd : Rowb} {d : Odisk_Disk} (hd : Odisk_Disk.ob ed Γ gd rowd d) (name : ByteArray) (hname : name.size ≤ lim) (hp : Pre [rowd] Γ w0) {r : Odisk_Disk × Int} (h : m_disk_Disk_Remove d name = some r) : Calls Try.prog 16 #[.pointer (some ⟨gd, 0, none⟩), .string name] w0 (Outc Γ [rowd] w0 (r_disk_Disk_Remove gd ed r)) := by
  refine calls_of (N := 16) (rs := [4]) (args := [.pointer (some ⟨gd, 0, none⟩), .string name]) Try.func16 rfl Try.ntmps16 Try.results16 rfl ?_
  obtain ⟨F, hF⟩ : ∃ F : Fm, F = ⟨ids [rowd], w0, Γ⟩ := ⟨_, rfl⟩
  refine WC.here (C := CC F Γ [rowd]) ?_ (hF ▸ hp.start)
  refine WC.rs ?_
  refine e_box (v := .string name) rfl rfl rfl rfl (by kernel_rfl) ?_
  intro g1
  refine va rfl rfl rfl (q_assign (v := .int .i64 0) rfl (by kernel_rfl)) ?_
  refine WR.nil ?_
  change WC _ _ _ _ _ _
  refine WC.seq ?_
  refine WC.rs ?_
  refine va rfl rfl rfl (q_move (v := .pointer (some ⟨gd, 0, none⟩)) rfl (by kernel_rfl)) ?_
  refine va rfl rfl rfl (q_ldl (i := 0) (v := .string name) rfl rfl Try.isAgg9 rfl rfl) ?_
  obtain ⟨z2, hz3, h⟩ := bnd h
  refine vc rfl rfl rfl (q_call (call_run Try.call31 rfl rfl (by kernel_rfl)) (fun w hw => t_disk_Disk_there (Γ := Gh.all w) (hd.mono hw.sat.le_all) (hw.ra 1 rfl) name hname (Sat.all w) hz3)) ?_
  refine va rfl rfl rfl (q_assign (v := .int .i64 z2) rfl (by kernel_rfl)) ?_
  refine WR.nil ?_
  change WC _ _ _ _ _ _
  refine WC.rs ?_
  refine va rfl rfl rfl (q_move (v := .int .i64 z2) rfl (by kernel_rfl)) ?_
  refine va rfl rfl rfl (q_neq rfl rfl rfl) ?_
  refine WR.nil ?_
  change WC _ _ _ _ _ _
  refine WC.cif h (by kernel_rfl) (fun hb4 h => ?_) (fun hb4 h => ?_)
  · skip
    refine WC.rs ?_
    refine va rfl rfl rfl (q_move (v := .int .i64 z2) rfl (by kernel_rfl)) ?_
    refine va rfl rfl rfl (q_assign (v := .int .i64 z2) rfl (by kernel_rfl)) ?_
    refine WR.nil ?_
    change WC _ _ _ _ _ _
    refine WC.ret ?_
    intro w hw
    obtain ⟨hk5, h⟩ := chk_some h
    obtain rfl := Option.some.inj h
    subst hF
    exact end_e (is := [1]) (by kernel_rfl) hw rfl ⟨rowd, rfl, rfl, hd, (i64b_of hk5), trivial⟩
  · skip
    refine WC.skip ?_
    change WC _ _ _ _ _ _
    refine WC.rs ?_
    refine va rfl rfl rfl (q_move (v := .pointer (some ⟨gd, 0, none⟩)) rfl (by kernel_rfl)) ?_
    refine va rfl rfl rfl (q_mkfn (v := .func (.func 35) #[] #[.pointer (some ⟨g1, 0, none⟩)]) rfl (by kernel_rfl)) ?_
    refine va rfl rfl rfl (q_build' (v := .agg #[.func (.func 35) #[] #[.pointer (some ⟨g1, 0, none⟩)], .string ByteArray.empty, .slice none 0 0]) rfl (bargs1 rfl) (fun w => by kernel_rfl)) ?_
    intro w hw; obtain ⟨Γ6, hw, hl7, hr8⟩ := hw.seal (i := 0) rfl
    have hg9 := hr8 _ (List.mem_singleton.2 rfl)
    refine WR.here (C := CC F Γ6 [[], rowd]) ?_ hw
    clear hw
    have hf10 : Cdisk_change_do.ok Γ6 none g1 (Cdisk_change_do.disk_Disk_Remove_1 name) := ⟨⟨hg9, hname⟩, trivial⟩
    obtain ⟨z11, hz12, h⟩ := bnd h
    refine e_call (is := [1]) rfl rfl (call_run Try.call28 rfl rfl (by kernel_rfl)) rfl (fun w hp => t_disk_Disk_done (hd.mono hl7) (Ac_2 := none) (cc_2 := 0) (⟨(Cdisk_change_do.disk_Disk_Remove_1 name), ByteArray.empty, []⟩ : Ddisk_change) ⟨hf10, (show (ByteArray.empty : ByteArray).size ≤ lim by decide), ⟨Nat.zero_le _, Sl.nil _ _ _⟩⟩ hp hz12) ?_
    rintro Γ13 U15 v16 hl14 ⟨row17, rfl, rfl, hr18, hr19, _⟩
    change WR _ _ _ (CC F Γ13 [row17, []]) _ _ (upd _ 15 (.int .i64 z11.2))
    refine va rfl rfl rfl (q_assign (v := .int .i64 z11.2) rfl (by kernel_rfl)) ?_
    refine WR.nil ?_
    change WC _ _ _ _ _ _
    refine WC.ret ?_
    intro w hw
    obtain rfl := Option.some.inj h
    subst hF
    exact end_e (is := [0]) (by kernel_rfl) hw rfl ⟨row17, rfl, rfl, hr18, hr19, trivial⟩
set_option maxRecDepth 100000 in
set_option maxHeartbeats 400000 in
theorem t_firthlaw07_DiskNames {Γ : Gh} {w0 : World} (a : ByteArray) (ha : a.size ≤ lim) (b : ByteArray) (hb : b.size ≤ lim) {Ax_ : Option Addr} {cx_ : Nat} {x_ : List UInt8} (hx_ : Sl byteT Γ Ax_ x_) (hx_c : x_.length ≤ cx_) (hs : Sat Γ w0) {r : Bool} (h : m_firthlaw07_DiskNames a b x_ = some r) : Calls Try.prog 4 #[.string a, .string b, .slice Ax_ x_.length cx_] w0 (fun e w' => e = .returned (.bool r) ∧ Fr no w0 w') := by
  refine calls_of (N := 169) (rs := [6]) (args := [.string a, .string b, .slice Ax_ x_.length cx_]) Try.func4 rfl Try.ntmps4 Try.results4 rfl ?_
  obtain ⟨F, hF⟩ : ∃ F : Fm, F = ⟨no, w0, Γ⟩ := ⟨_, rfl⟩
  refine WC.here (C := CC F Γ []) ?_ (hF ▸ Cur.start0 hs)
  refine WC.rs ?_
  refine va rfl rfl rfl (q_assign (v := .bool false) rfl (by kernel_rfl)) ?_
  refine WR.nil ?_
  change WC _ _ _ _ _ _
  refine WC.rs ?_
  refine va rfl rfl rfl (q_move (v := .string a) rfl (by kernel_rfl)) ?_
  refine e_convB (src := 9) (dst := 22) (s := a) Try.underlying9 Try.underlying22 Try.underlying5 ha rfl rfl rfl rfl rfl ?_
  intro Γ1 A2 c3 hl4 hs5 hc6
  refine va rfl rfl rfl (q_assign (v := .slice A2 (a.data.toList).length c3) rfl (by kernel_rfl)) ?_
  refine WR.nil ?_
  change WC _ _ _ _ _ _
  refine WC.seq ?_
  refine WC.rs ?_
  obtain ⟨z7, hz8, h⟩ := bnd h
  refine vc rfl rfl rfl (q_call (call_run Try.call9 rfl rfl (by kernel_rfl)) (fun w hw => t_firthlaw07_awake (Γ := Gh.all w)  (Sat.all w) hz8)) ?_
  refine va rfl rfl rfl (q_not rfl rfl) ?_
  refine va rfl rfl rfl (q_move (v := .bool (!z7)) rfl (by kernel_rfl)) ?_
  refine vg0 rfl rfl rfl rfl rfl (fun hg9 => QV.qo (q_move (v := .string a) rfl (by kernel_rfl))) ?_
  refine vg0 rfl rfl rfl rfl rfl (fun hg10 => QV.qo (q_move (v := .string b) rfl (by kernel_rfl))) ?_
  refine vg0 rfl rfl rfl rfl rfl (fun hg11 => QV.qo (q_seql rfl (gu hg11 rfl) (gu hg11 rfl))) ?_
  refine va rfl rfl rfl (q_pick rfl rfl (pk_or' (g := (!z7)) (y := (a == b)))) ?_
  refine va rfl rfl rfl (q_move (v := .bool ((!z7) || (a == b))) rfl (by kernel_rfl)) ?_
  refine vg0 rfl rfl rfl rfl rfl (fun hg12 => QV.qo (q_move (v := .string a) rfl (by kernel_rfl))) ?_
  refine vg0 rfl rfl rfl rfl rfl (fun hg13 => QV.qo (q_len_str rfl Try.underlying9 (gu hg13 rfl))) ?_
  refine vg0 rfl rfl rfl rfl rfl (fun hg14 => QV.qo (q_lss rfl (gu hg14 rfl) rfl)) ?_
  refine va rfl rfl rfl (q_pick rfl rfl (pk_or' (g := ((!z7) || (a == b))) (y := (decide (((a.size : Nat) : Int) < 1))))) ?_
  refine va rfl rfl rfl (q_move (v := .bool (((!z7) || (a == b)) || (decide (((a.size : Nat) : Int) < 1)))) rfl (by kernel_rfl)) ?_
  refine vg0 rfl rfl rfl rfl rfl (fun hg15 => QV.qo (q_move (v := .string a) rfl (by kernel_rfl))) ?_
  refine vg0 rfl rfl rfl rfl rfl (fun hg16 => QV.qo (q_len_str rfl Try.underlying9 (gu hg16 rfl))) ?_
  refine vg0 rfl rfl rfl rfl rfl (fun hg17 => QV.qo (q_gtr rfl (gu hg17 rfl) rfl)) ?_
  refine va rfl rfl rfl (q_pick rfl rfl (pk_or' (g := (((!z7) || (a == b)) || (decide (((a.size : Nat) : Int) < 1)))) (y := (decide (16 < ((a.size : Nat) : Int)))))) ?_
  refine va rfl rfl rfl (q_move (v := .bool ((((!z7) || (a == b)) || (decide (((a.size : Nat) : Int) < 1))) || (decide (16 < ((a.size : Nat) : Int))))) rfl (by kernel_rfl)) ?_
  refine vg0 rfl rfl rfl rfl rfl (fun hg18 => QV.qo (q_move (v := .string b) rfl (by kernel_rfl))) ?_
  refine vg0 rfl rfl rfl rfl rfl (fun hg19 => QV.qo (q_len_str rfl Try.underlying9 (gu hg19 rfl))) ?_
  refine vg0 rfl rfl rfl rfl rfl (fun hg20 => QV.qo (q_lss rfl (gu hg20 rfl) rfl)) ?_
  refine va rfl rfl rfl (q_pick rfl rfl (pk_or' (g := ((((!z7) || (a == b)) || (decide (((a.size : Nat) : Int) < 1))) || (decide (16 < ((a.size : Nat) : Int))))) (y := (decide (((b.size : Nat) : Int) < 1))))) ?_
  refine va rfl rfl rfl (q_move (v := .bool (((((!z7) || (a == b)) || (decide (((a.size : Nat) : Int) < 1))) || (decide (16 < ((a.size : Nat) : Int)))) || (decide (((b.size : Nat) : Int) < 1)))) rfl (by kernel_rfl)) ?_
  refine vg0 rfl rfl rfl rfl rfl (fun hg21 => QV.qo (q_move (v := .string b) rfl (by kernel_rfl))) ?_
  refine vg0 rfl rfl rfl rfl rfl (fun hg22 => QV.qo (q_len_str rfl Try.underlying9 (gu hg22 rfl))) ?_
  refine vg0 rfl rfl rfl rfl rfl (fun hg23 => QV.qo (q_gtr rfl (gu hg23 rfl) rfl)) ?_
  refine va rfl rfl rfl (q_pick rfl rfl (pk_or' (g := (((((!z7) || (a == b)) || (decide (((a.size : Nat) : Int) < 1))) || (decide (16 < ((a.size : Nat) : Int)))) || (decide (((b.size : Nat) : Int) < 1)))) (y := (decide (16 < ((b.size : Nat) : Int)))))) ?_
  refine WR.nil ?_
  change WC _ _ _ _ _ _
  refine WC.cif h (by kernel_rfl) (fun hb24 h => ?_) (fun hb24 h => ?_)
  · skip
    refine WC.rs ?_
    obtain ⟨z25, hz26, h⟩ := bnd h
    refine vc rfl rfl rfl (q_call (call_run Try.call9 rfl rfl (by kernel_rfl)) (fun w hw => t_firthlaw07_awake (Γ := Gh.all w)  (Sat.all w) hz26)) ?_
    refine va rfl rfl rfl (q_assign (v := .bool z25) rfl (by kernel_rfl)) ?_
    refine WR.nil ?_
    change WC _ _ _ _ _ _
    refine WC.ret ?_
    intro w hw
    obtain rfl := Option.some.inj h
    subst hF
    exact ⟨by kernel_rfl, hw.fr⟩
  · skip
    refine WC.skip ?_
    change WC _ _ _ _ _ _
    refine WC.rs ?_
    obtain ⟨z27, hz28, h⟩ := bnd h
    refine e_call (is := []) rfl rfl (call_run Try.call10 rfl rfl (by kernel_rfl)) rfl (fun w hp => t_disk_New 1048576 (show I64 1048576 by decide) hp hz28) ?_
    rintro Γ29 U31 v32 hl30 ⟨g33, row34, rfl, rfl, hr35, _⟩
    change WR _ _ _ (CC F Γ29 [row34, []]) _ _ (upd _ 50 (.pointer (some ⟨g33, 0, none⟩)))
    refine va rfl rfl rfl (q_assign (v := .pointer (some ⟨g33, 0, none⟩)) rfl (by kernel_rfl)) ?_
    refine WR.nil ?_
    change WC _ _ _ _ _ _
    refine WC.rs ?_
    refine va rfl rfl rfl (q_move (v := .pointer (some ⟨g33, 0, none⟩)) rfl (by kernel_rfl)) ?_
    refine va rfl rfl rfl (q_move (v := .string a) rfl (by kernel_rfl)) ?_
    refine va rfl rfl rfl (q_move (v := .slice Ax_ x_.length cx_) rfl (by kernel_rfl)) ?_
    obtain ⟨z36, hz37, h⟩ := bnd h
    refine e_call (is := [0]) rfl rfl (call_run Try.call11 rfl rfl (by kernel_rfl)) rfl (fun w hp => t_disk_Disk_Append hr35 a ha (hx_.mono (hl4.trans hl30)) hx_c hp hz37) ?_
    rintro Γ38 U40 v41 hl39 ⟨row42, rfl, rfl, hr43, hr44, _⟩
    change WR _ _ _ (CC F Γ38 [row42, []]) _ _ (upd _ 54 (.int .i64 z36.2))
    refine va rfl rfl rfl (q_assign (v := .int .i64 z36.2) rfl (by kernel_rfl)) ?_
    refine WR.nil ?_
    change WC _ _ _ _ _ _
    refine WC.rs ?_
    refine va rfl rfl rfl (q_move (v := .pointer (some ⟨g33, 0, none⟩)) rfl (by kernel_rfl)) ?_
    refine va rfl rfl rfl (q_move (v := .string b) rfl (by kernel_rfl)) ?_
    refine va rfl rfl rfl (q_move (v := .slice A2 (a.data.toList).length c3) rfl (by kernel_rfl)) ?_
    obtain ⟨z45, hz46, h⟩ := bnd h
    refine e_call (is := [0]) rfl rfl (call_run Try.call11 rfl rfl (by kernel_rfl)) rfl (fun w hp => t_disk_Disk_Append hr43 b hb (hs5.mono (hl30.trans hl39)) hc6 hp hz46) ?_
    rintro Γ47 U49 v50 hl48 ⟨row51, rfl, rfl, hr52, hr53, _⟩
    change WR _ _ _ (CC F Γ47 [row51, []]) _ _ (upd _ 58 (.int .i64 z45.2))
    refine va rfl rfl rfl (q_assign (v := .int .i64 z45.2) rfl (by kernel_rfl)) ?_
    refine WR.nil ?_
    change WC _ _ _ _ _ _
    refine WC.seq ?_
    refine WC.rs ?_
    refine va rfl rfl rfl (q_move (v := .int .i64 z36.2) rfl (by kernel_rfl)) ?_
    refine va rfl rfl rfl (q_neq rfl rfl rfl) ?_
    refine va rfl rfl rfl (q_move (v := .bool (z36.2 != 0)) rfl (by kernel_rfl)) ?_
    refine vg0 rfl rfl rfl rfl rfl (fun hg54 => QV.qo (q_move (v := .int .i64 z45.2) rfl (by kernel_rfl))) ?_
    refine vg0 rfl rfl rfl rfl rfl (fun hg55 => QV.qo (q_neq rfl (gu hg55 rfl) rfl)) ?_
    refine va rfl rfl rfl (q_pick rfl rfl (pk_or' (g := (z36.2 != 0)) (y := (z45.2 != 0)))) ?_
    refine WR.nil ?_
    change WC _ _ _ _ _ _
    refine WC.cif h (by kernel_rfl) (fun hb56 h => ?_) (fun hb56 h => ?_)
    · skip
      refine WC.rs ?_
      refine va rfl rfl rfl (q_move (v := .int .i64 z36.2) rfl (by kernel_rfl)) ?_
      refine va rfl rfl rfl (q_eql rfl rfl rfl) ?_
      refine va rfl rfl rfl (q_move (v := .bool (z36.2 == 72)) rfl (by kernel_rfl)) ?_
      refine vg1 rfl rfl rfl rfl rfl (fun hg57 => QV.qo (q_move (v := .slice Ax_ x_.length cx_) rfl (by kernel_rfl))) ?_
      refine vg1 rfl rfl rfl rfl rfl (fun hg58 => QV.qo (q_len_slice rfl Try.underlying22 (gu hg58 rfl))) ?_
      refine vg1 rfl rfl rfl rfl rfl (fun hg59 => QV.qo (q_gtr rfl (gu hg59 rfl) rfl)) ?_
      refine va rfl rfl rfl (q_pick rfl rfl (pk_and' (g := (z36.2 == 72)) (y := (decide (1048576 < ((x_.length : Nat) : Int)))))) ?_
      refine va rfl rfl rfl (q_move (v := .bool ((z36.2 == 72) && (decide (1048576 < ((x_.length : Nat) : Int))))) rfl (by kernel_rfl)) ?_
      refine vg0 rfl rfl rfl rfl rfl (fun hg60 => QV.qo (q_move (v := .int .i64 z45.2) rfl (by kernel_rfl))) ?_
      refine vg0 rfl rfl rfl rfl rfl (fun hg61 => QV.qo (q_eql rfl (gu hg61 rfl) rfl)) ?_
      refine vg0 rfl rfl rfl rfl rfl (fun hg62 => QV.qo (q_move (v := .bool (z45.2 == 72)) rfl (gu hg62 rfl))) ?_
      refine vh1 (c0 := (!((z36.2 == 72) && (decide (1048576 < ((x_.length : Nat) : Int)))))) (g := (z45.2 == 72)) rfl rfl rfl rfl rfl (fun hg63 => QV.qo (q_move (v := .slice A2 (a.data.toList).length c3) rfl (by kernel_rfl))) ?_
      refine vh1 (c0 := (!((z36.2 == 72) && (decide (1048576 < ((x_.length : Nat) : Int)))))) (g := (z45.2 == 72)) rfl rfl rfl rfl rfl (fun hg64 => QV.qo (q_len_slice rfl Try.underlying22 (gu hg64 rfl))) ?_
      refine vh1 (c0 := (!((z36.2 == 72) && (decide (1048576 < ((x_.length : Nat) : Int)))))) (g := (z45.2 == 72)) rfl rfl rfl rfl rfl (fun hg65 => QV.qo (q_move (v := .slice Ax_ x_.length cx_) rfl (by kernel_rfl))) ?_
      refine vh1 (c0 := (!((z36.2 == 72) && (decide (1048576 < ((x_.length : Nat) : Int)))))) (g := (z45.2 == 72)) rfl rfl rfl rfl rfl (fun hg66 => QV.qo (q_len_slice rfl Try.underlying22 (gu hg66 rfl))) ?_
      refine vh1 (c0 := (!((z36.2 == 72) && (decide (1048576 < ((x_.length : Nat) : Int)))))) (g := (z45.2 == 72)) rfl rfl rfl rfl rfl (fun hg67 => QV.qo (q_sub rfl rfl (gu hg67 rfl))) ?_
      refine vh1 (c0 := (!((z36.2 == 72) && (decide (1048576 < ((x_.length : Nat) : Int)))))) (g := (z45.2 == 72)) rfl rfl rfl rfl rfl (fun hg68 => QV.qo (q_gtr rfl (gu hg68 rfl) (gu hg68 rfl))) ?_
      refine vg0 rfl rfl rfl rfl rfl (fun hg69 => QV.qo (q_pick rfl (gu hg69 rfl) (pk_and (c := (!((z36.2 == 72) && (decide (1048576 < ((x_.length : Nat) : Int)))))) (g := (z45.2 == 72)) (y := (decide ((w64 (1048576 - ((x_.length : Nat) : Int))) < (((a.data.toList).length : Nat) : Int)))) hg69))) ?_
      refine va rfl rfl rfl (q_pick rfl rfl (pk_or' (g := ((z36.2 == 72) && (decide (1048576 < ((x_.length : Nat) : Int))))) (y := ((z45.2 == 72) && (decide ((w64 (1048576 - ((x_.length : Nat) : Int))) < (((a.data.toList).length : Nat) : Int))))))) ?_
      refine va rfl rfl rfl (q_assign (v := .bool (((z36.2 == 72) && (decide (1048576 < ((x_.length : Nat) : Int)))) || ((z45.2 == 72) && (decide ((w64 (1048576 - ((x_.length : Nat) : Int))) < (((a.data.toList).length : Nat) : Int)))))) rfl (by kernel_rfl)) ?_
      refine WR.nil ?_
      change WC _ _ _ _ _ _
      refine WC.ret ?_
      intro w hw
      obtain rfl := Option.some.inj h
      subst hF
      exact ⟨by kernel_rfl, hw.fr⟩
    · skip
      refine WC.skip ?_
      change WC _ _ _ _ _ _
      refine WC.rs ?_
      refine va rfl rfl rfl (q_move (v := .pointer (some ⟨g33, 0, none⟩)) rfl (by kernel_rfl)) ?_
      refine va rfl rfl rfl (q_move (v := .string a) rfl (by kernel_rfl)) ?_
      refine va rfl rfl rfl (q_move (v := .string b) rfl (by kernel_rfl)) ?_
      obtain ⟨z70, hz71, h⟩ := bnd h
      refine e_call (is := [0]) rfl rfl (call_run Try.call14 rfl rfl (by kernel_rfl)) rfl (fun w hp => t_disk_Disk_Rename hr52 a ha b hb hp hz71) ?_
      rintro Γ72 U74 v75 hl73 ⟨row76, rfl, rfl, hr77, hr78, _⟩
      change WR _ _ _ (CC F Γ72 [row76, []]) _ _ (upd _ 87 (.int .i64 z70.2))
      refine va rfl rfl rfl (q_assign (v := .int .i64 z70.2) rfl (by kernel_rfl)) ?_
      refine WR.nil ?_
      change WC _ _ _ _ _ _
      refine WC.rs ?_
      refine va rfl rfl rfl (q_move (v := .pointer (some ⟨g33, 0, none⟩)) rfl (by kernel_rfl)) ?_
      obtain ⟨z79, hz80, h⟩ := bnd h
      refine e_call (is := [0]) rfl rfl (call_run Try.call15 rfl rfl (by kernel_rfl)) rfl (fun w hp => t_disk_Disk_Names hr77 hp hz80) ?_
      rintro Γ81 U83 v84 hl82 ⟨A85, c86, row87, rfl, rfl, hr88, _⟩
      change WR _ _ _ (CC F Γ81 [row76, row87, []]) _ _ (upd _ 89 (.slice A85 z79.length c86))
      refine va rfl rfl rfl (q_assign (v := .slice A85 z79.length c86) rfl (by kernel_rfl)) ?_
      refine WR.nil ?_
      change WC _ _ _ _ _ _
      refine WC.rs ?_
      refine va rfl rfl rfl (q_move (v := .pointer (some ⟨g33, 0, none⟩)) rfl (by kernel_rfl)) ?_
      refine va rfl rfl rfl (q_move (v := .string b) rfl (by kernel_rfl)) ?_
      obtain ⟨z89, hz90, h⟩ := bnd h
      refine e_call (is := [0]) rfl rfl (call_run Try.call12 rfl rfl (by kernel_rfl)) rfl (fun w hp => t_disk_Disk_Read (hr77.mono hl82) b hb hp hz90) ?_
      rintro Γ91 U93 v94 hl92 ⟨A95, c96, row97, rfl, rfl, hr98, _⟩
      change WR _ _ _ (CC F Γ91 [row76, row97, row87, []]) _ _ (upd _ 93 (.tuple #[.slice A95 z89.1.length c96, .bool z89.2]))
      refine va rfl rfl rfl (q_move (v := .tuple #[.slice A95 z89.1.length c96, .bool z89.2]) rfl (by kernel_rfl)) ?_
      refine va rfl rfl rfl (q_extract (v := .slice A95 z89.1.length c96) rfl rfl rfl) ?_
      refine va rfl rfl rfl (q_extract (v := .bool z89.2) rfl rfl rfl) ?_
      refine va rfl rfl rfl (q_assign (v := .slice A95 z89.1.length c96) rfl (by kernel_rfl)) ?_
      refine va rfl rfl rfl (q_assign (v := .bool z89.2) rfl (by kernel_rfl)) ?_
      refine WR.nil ?_
      change WC _ _ _ _ _ _
      refine WC.rs ?_
      refine va rfl rfl rfl (q_move (v := .pointer (some ⟨g33, 0, none⟩)) rfl (by kernel_rfl)) ?_
      refine va rfl rfl rfl (q_move (v := .string a) rfl (by kernel_rfl)) ?_
      obtain ⟨z99, hz100, h⟩ := bnd h
      refine e_call (is := [0]) rfl rfl (call_run Try.call12 rfl rfl (by kernel_rfl)) rfl (fun w hp => t_disk_Disk_Read (hr77.mono (hl82.trans hl92)) a ha hp hz100) ?_
      rintro Γ101 U103 v104 hl102 ⟨A105, c106, row107, rfl, rfl, hr108, _⟩
      change WR _ _ _ (CC F Γ101 [row76, row107, row97, row87, []]) _ _ (upd _ 99 (.tuple #[.slice A105 z99.1.length c106, .bool z99.2]))
      refine va rfl rfl rfl (q_move (v := .tuple #[.slice A105 z99.1.length c106, .bool z99.2]) rfl (by kernel_rfl)) ?_
      refine va rfl rfl rfl (q_extract (v := .slice A105 z99.1.length c106) rfl rfl rfl) ?_
      refine va rfl rfl rfl (q_extract (v := .bool z99.2) rfl rfl rfl) ?_
      refine va rfl rfl rfl (q_assign (v := .slice A105 z99.1.length c106) rfl (by kernel_rfl)) ?_
      refine va rfl rfl rfl (q_assign (v := .bool z99.2) rfl (by kernel_rfl)) ?_
      refine WR.nil ?_
      change WC _ _ _ _ _ _
      refine WC.rs ?_
      refine va rfl rfl rfl (q_move (v := .pointer (some ⟨g33, 0, none⟩)) rfl (by kernel_rfl)) ?_
      refine va rfl rfl rfl (q_move (v := .string b) rfl (by kernel_rfl)) ?_
      refine va rfl rfl rfl (q_move (v := .string b) rfl (by kernel_rfl)) ?_
      obtain ⟨z109, hz110, h⟩ := bnd h
      refine e_call (is := [0]) rfl rfl (call_run Try.call14 rfl rfl (by kernel_rfl)) rfl (fun w hp => t_disk_Disk_Rename (hr77.mono ((hl82.trans hl92).trans hl102)) b hb b hb hp hz110) ?_
      rintro Γ111 U113 v114 hl112 ⟨row115, rfl, rfl, hr116, hr117, _⟩
      change WR _ _ _ (CC F Γ111 [row115, row107, row97, row87, []]) _ _ (upd _ 105 (.int .i64 z109.2))
      refine va rfl rfl rfl (q_assign (v := .int .i64 z109.2) rfl (by kernel_rfl)) ?_
      refine WR.nil ?_
      change WC _ _ _ _ _ _
      refine WC.rs ?_
      refine va rfl rfl rfl (q_move (v := .pointer (some ⟨g33, 0, none⟩)) rfl (by kernel_rfl)) ?_
      refine va rfl rfl rfl (q_move (v := .string b) rfl (by kernel_rfl)) ?_
      obtain ⟨z118, hz119, h⟩ := bnd h
      refine e_call (is := [0]) rfl rfl (call_run Try.call12 rfl rfl (by kernel_rfl)) rfl (fun w hp => t_disk_Disk_Read hr116 b hb hp hz119) ?_
      rintro Γ120 U122 v123 hl121 ⟨A124, c125, row126, rfl, rfl, hr127, _⟩
      change WR _ _ _ (CC F Γ120 [row115, row126, row107, row97, row87, []]) _ _ (upd _ 109 (.tuple #[.slice A124 z118.1.length c125, .bool z118.2]))
      refine va rfl rfl rfl (q_move (v := .tuple #[.slice A124 z118.1.length c125, .bool z118.2]) rfl (by kernel_rfl)) ?_
      refine va rfl rfl rfl (q_extract (v := .slice A124 z118.1.length c125) rfl rfl rfl) ?_
      refine va rfl rfl rfl (q_extract (v := .bool z118.2) rfl rfl rfl) ?_
      refine va rfl rfl rfl (q_assign (v := .slice A124 z118.1.length c125) rfl (by kernel_rfl)) ?_
      refine va rfl rfl rfl (q_assign (v := .bool z118.2) rfl (by kernel_rfl)) ?_
      refine WR.nil ?_
      change WC _ _ _ _ _ _
      refine WC.rs ?_
      refine va rfl rfl rfl (q_move (v := .int .i64 z70.2) rfl (by kernel_rfl)) ?_
      refine va rfl rfl rfl (q_eql rfl rfl rfl) ?_
      refine va rfl rfl rfl (q_move (v := .bool (z70.2 == 0)) rfl (by kernel_rfl)) ?_
      refine vg1 rfl rfl rfl rfl rfl (fun hg128 => QV.qo (q_move (v := .int .i64 z109.2) rfl (by kernel_rfl))) ?_
      refine vg1 rfl rfl rfl rfl rfl (fun hg129 => QV.qo (q_eql rfl (gu hg129 rfl) rfl)) ?_
      refine va rfl rfl rfl (q_pick rfl rfl (pk_and' (g := (z70.2 == 0)) (y := (z109.2 == 0)))) ?_
      refine va rfl rfl rfl (q_move (v := .bool ((z70.2 == 0) && (z109.2 == 0))) rfl (by kernel_rfl)) ?_
      refine vg1 rfl rfl rfl rfl rfl (fun hg130 => QV.qo (q_move (v := .slice A85 z79.length c86) rfl (by kernel_rfl))) ?_
      refine vg1 rfl rfl rfl rfl rfl (fun hg131 => QV.qo (q_len_slice rfl Try.underlying33 (gu hg131 rfl))) ?_
      refine vg1 rfl rfl rfl rfl rfl (fun hg132 => QV.qo (q_eql rfl (gu hg132 rfl) rfl)) ?_
      refine va rfl rfl rfl (q_pick rfl rfl (pk_and' (g := ((z70.2 == 0) && (z109.2 == 0))) (y := (((z79.length : Nat) : Int) == 1)))) ?_
      refine va rfl rfl rfl (q_move (v := .bool (((z70.2 == 0) && (z109.2 == 0)) && (((z79.length : Nat) : Int) == 1))) rfl (by kernel_rfl)) ?_
      refine vg1 rfl rfl rfl rfl rfl (fun hg133 => QV.qo (q_move (v := .slice A85 z79.length c86) rfl (by kernel_rfl))) ?_
      obtain ⟨hk135, h⟩ := chk_some h
      refine vg1 rfl rfl rfl rfl rfl (fun hg134 => QV.qo (q_ixn (i := 0) Try.underlying33 Try.sizeOf9 rfl (gu hg134 rfl) rfl (of_decide_eq_true (imp_of hk135 hg134)) ((hr88.mono (((hl92.trans hl102).trans hl112).trans hl121)).some_ (of_decide_eq_true (imp_of hk135 hg134))))) ?_
      refine vg1 rfl rfl rfl rfl rfl (fun hg136 => QV.qo (q_ldo (c := 0) (v := .string (gt z79 0)) (i := 4) rfl ((hr88.mono (((hl92.trans hl102).trans hl112).trans hl121)).strT_at (of_decide_eq_true (imp_of hk135 hg136))).2 rfl Try.isAgg9 (gu hg136 rfl) rfl)) ?_
      refine vg1 rfl rfl rfl rfl rfl (fun hg137 => QV.qo (q_move (v := .string b) rfl (by kernel_rfl))) ?_
      refine vg1 rfl rfl rfl rfl rfl (fun hg138 => QV.qo (q_seql rfl (gu hg138 rfl) (gu hg138 rfl))) ?_
      refine va rfl rfl rfl (q_pick rfl rfl (pk_and' (g := (((z70.2 == 0) && (z109.2 == 0)) && (((z79.length : Nat) : Int) == 1))) (y := ((gt z79 0) == b)))) ?_
      refine va rfl rfl rfl (q_move (v := .bool ((((z70.2 == 0) && (z109.2 == 0)) && (((z79.length : Nat) : Int) == 1)) && ((gt z79 0) == b))) rfl (by kernel_rfl)) ?_
      refine vg1 rfl rfl rfl rfl rfl (fun hg139 => QV.qo (q_move (v := .bool z89.2) rfl (by kernel_rfl))) ?_
      refine va rfl rfl rfl (q_pick rfl rfl (pk_and' (g := ((((z70.2 == 0) && (z109.2 == 0)) && (((z79.length : Nat) : Int) == 1)) && ((gt z79 0) == b))) (y := z89.2))) ?_
      refine va rfl rfl rfl (q_move (v := .bool (((((z70.2 == 0) && (z109.2 == 0)) && (((z79.length : Nat) : Int) == 1)) && ((gt z79 0) == b)) && z89.2)) rfl (by kernel_rfl)) ?_
      refine vg1 rfl rfl rfl rfl rfl (fun hg140 => QV.qo (q_move (v := .bool z99.2) rfl (by kernel_rfl))) ?_
      refine vg1 rfl rfl rfl rfl rfl (fun hg141 => QV.qo (q_not rfl (gu hg141 rfl))) ?_
      refine va rfl rfl rfl (q_pick rfl rfl (pk_and' (g := (((((z70.2 == 0) && (z109.2 == 0)) && (((z79.length : Nat) : Int) == 1)) && ((gt z79 0) == b)) && z89.2)) (y := (!z99.2)))) ?_
      refine va rfl rfl rfl (q_move (v := .bool ((((((z70.2 == 0) && (z109.2 == 0)) && (((z79.length : Nat) : Int) == 1)) && ((gt z79 0) == b)) && z89.2) && (!z99.2))) rfl (by kernel_rfl)) ?_
      refine vg1 rfl rfl rfl rfl rfl (fun hg142 => QV.qo (q_move (v := .slice A95 z89.1.length c96) rfl (by kernel_rfl))) ?_
      refine vg1 rfl rfl rfl rfl rfl (fun hg143 => QV.qo (q_bstro (i := 3) rfl (hr98.mono ((hl102.trans hl112).trans hl121)) Try.underlying22 Try.underlying5 Try.underlying9 rfl (gu hg143 rfl))) ?_
      refine vg1 rfl rfl rfl rfl rfl (fun hg144 => QV.qo (q_move (v := .slice Ax_ x_.length cx_) rfl (by kernel_rfl))) ?_
      refine vg1 rfl rfl rfl rfl rfl (fun hg145 => QV.qo (q_bstr (hx_.mono (((((((((hl4.trans hl30).trans hl39).trans hl48).trans hl73).trans hl82).trans hl92).trans hl102).trans hl112).trans hl121)) Try.underlying22 Try.underlying5 Try.underlying9 rfl (gu hg145 rfl))) ?_
      refine vg1 rfl rfl rfl rfl rfl (fun hg146 => QV.qo (q_seql rfl (gu hg146 rfl) (gu hg146 rfl))) ?_
      refine va rfl rfl rfl (q_pick rfl rfl (pk_and' (g := ((((((z70.2 == 0) && (z109.2 == 0)) && (((z79.length : Nat) : Int) == 1)) && ((gt z79 0) == b)) && z89.2) && (!z99.2))) (y := ((⟨z89.1.toArray⟩ : ByteArray) == (⟨x_.toArray⟩ : ByteArray))))) ?_
      refine va rfl rfl rfl (q_move (v := .bool (((((((z70.2 == 0) && (z109.2 == 0)) && (((z79.length : Nat) : Int) == 1)) && ((gt z79 0) == b)) && z89.2) && (!z99.2)) && ((⟨z89.1.toArray⟩ : ByteArray) == (⟨x_.toArray⟩ : ByteArray)))) rfl (by kernel_rfl)) ?_
      refine vg1 rfl rfl rfl rfl rfl (fun hg147 => QV.qo (q_move (v := .slice A124 z118.1.length c125) rfl (by kernel_rfl))) ?_
      refine vg1 rfl rfl rfl rfl rfl (fun hg148 => QV.qo (q_bstro (i := 1) rfl hr127 Try.underlying22 Try.underlying5 Try.underlying9 rfl (gu hg148 rfl))) ?_
      refine vg1 rfl rfl rfl rfl rfl (fun hg149 => QV.qo (q_move (v := .slice Ax_ x_.length cx_) rfl (by kernel_rfl))) ?_
      refine vg1 rfl rfl rfl rfl rfl (fun hg150 => QV.qo (q_bstr (hx_.mono (((((((((hl4.trans hl30).trans hl39).trans hl48).trans hl73).trans hl82).trans hl92).trans hl102).trans hl112).trans hl121)) Try.underlying22 Try.underlying5 Try.underlying9 rfl (gu hg150 rfl))) ?_
      refine vg1 rfl rfl rfl rfl rfl (fun hg151 => QV.qo (q_seql rfl (gu hg151 rfl) (gu hg151 rfl))) ?_
      refine va rfl rfl rfl (q_pick rfl rfl (pk_and' (g := (((((((z70.2 == 0) && (z109.2 == 0)) && (((z79.length : Nat) : Int) == 1)) && ((gt z79 0) == b)) && z89.2) && (!z99.2)) && ((⟨z89.1.toArray⟩ : ByteArray) == (⟨x_.toArray⟩ : ByteArray)))) (y := ((⟨z118.1.toArray⟩ : ByteArray) == (⟨x_.toArray⟩ : ByteArray))))) ?_
      refine va rfl rfl rfl (q_move (v := .bool ((((((((z70.2 == 0) && (z109.2 == 0)) && (((z79.length : Nat) : Int) == 1)) && ((gt z79 0) == b)) && z89.2) && (!z99.2)) && ((⟨z89.1.toArray⟩ : ByteArray) == (⟨x_.toArray⟩ : ByteArray))) && ((⟨z118.1.toArray⟩ : ByteArray) == (⟨x_.toArray⟩ : ByteArray)))) rfl (by kernel_rfl)) ?_
      refine vg1 rfl rfl rfl rfl rfl (fun hg152 => QV.qo (q_move (v := .pointer (some ⟨g33, 0, none⟩)) rfl (by kernel_rfl))) ?_
      refine vg1 rfl rfl rfl rfl rfl (fun hg153 => QV.qo (q_move (v := .string a) rfl (by kernel_rfl))) ?_
      refine (Bool.eq_false_or_eq_true ((((((((z70.2 == 0) && (z109.2 == 0)) && (((z79.length : Nat) : Int) == 1)) && ((gt z79 0) == b)) && z89.2) && (!z99.2)) && ((⟨z89.1.toArray⟩ : ByteArray) == (⟨x_.toArray⟩ : ByteArray))) && ((⟨z118.1.toArray⟩ : ByteArray) == (⟨x_.toArray⟩ : ByteArray)))).elim (fun hb154 => ?_) (fun hb154 => ?_)
      · skip
        have h := bt hb154 h
        refine WR.sat (c0 := true) (g := ((((((((z70.2 == 0) && (z109.2 == 0)) && (((z79.length : Nat) : Int) == 1)) && ((gt z79 0) == b)) && z89.2) && (!z99.2)) && ((⟨z89.1.toArray⟩ : ByteArray) == (⟨x_.toArray⟩ : ByteArray))) && ((⟨z118.1.toArray⟩ : ByteArray) == (⟨x_.toArray⟩ : ByteArray)))) rfl rfl rfl hb154 ?_
        obtain ⟨z155, hz156, h⟩ := bnd h
        refine e_call (is := [0]) rfl rfl (call_run Try.call16 rfl rfl (args2 (gu hb154 rfl) (gu hb154 rfl))) rfl (fun w hp => t_disk_Disk_Remove (hr116.mono hl121) a ha hp hz156) ?_
        rintro Γ157 U159 v160 hl158 ⟨row161, rfl, rfl, hr162, hr163, _⟩
        change WR _ _ _ (CC F Γ157 [row161, row126, row107, row97, row87, []]) _ _ (upd _ 154 (.int .i64 z155.2))
        refine WR.sat (c0 := true) (g := ((((((((z70.2 == 0) && (z109.2 == 0)) && (((z79.length : Nat) : Int) == 1)) && ((gt z79 0) == b)) && z89.2) && (!z99.2)) && ((⟨z89.1.toArray⟩ : ByteArray) == (⟨x_.toArray⟩ : ByteArray))) && ((⟨z118.1.toArray⟩ : ByteArray) == (⟨x_.toArray⟩ : ByteArray)))) rfl rfl rfl hb154 ?_
        refine va rfl rfl rfl (q_eql rfl rfl rfl) ?_
        refine va rfl rfl rfl (q_pick_t (v := .bool (z155.2 == 71)) rfl rfl hb154 (by kernel_rfl)) ?_
        refine va rfl rfl rfl (q_move (v := .bool (z155.2 == 71)) rfl (by kernel_rfl)) ?_
        refine vg1 rfl rfl rfl rfl rfl (fun hg164 => QV.qo (q_move (v := .pointer (some ⟨g33, 0, none⟩)) rfl (by kernel_rfl))) ?_
        obtain ⟨z166, hz167, h⟩ := bnd h
        refine vg1 rfl rfl rfl rfl rfl (fun hg165 => (q_call (call_run Try.call17 rfl rfl (args1 (gu hg165 rfl))) (fun w hw => t_disk_Disk_Loose (Γ := Gh.all w) (hr162.mono hw.sat.le_all) (hw.ra 0 rfl) (Sat.all w) (gc_of hz167 hg165)))) ?_
        refine vg1 rfl rfl rfl rfl rfl (fun hg168 => QV.qo (q_eql rfl (gu hg168 rfl) rfl)) ?_
        refine va rfl rfl rfl (q_pick rfl rfl (pk_and' (g := (z155.2 == 71)) (y := (z166 == 4)))) ?_
        refine va rfl rfl rfl (q_move (v := .bool ((z155.2 == 71) && (z166 == 4))) rfl (by kernel_rfl)) ?_
        refine vg1 rfl rfl rfl rfl rfl (fun hg169 => QV.qo (q_move (v := .pointer (some ⟨g33, 0, none⟩)) rfl (by kernel_rfl))) ?_
        obtain ⟨z171, hz172, h⟩ := bnd h
        refine vg1 rfl rfl rfl rfl rfl (fun hg170 => (q_call (call_run Try.call18 rfl rfl (args1 (gu hg170 rfl))) (fun w hw => t_disk_Disk_Used (Γ := Gh.all w) (hr162.mono hw.sat.le_all) (hw.ra 0 rfl) (Sat.all w) (gc_of hz172 hg170)))) ?_
        refine vg1 rfl rfl rfl rfl rfl (fun hg173 => QV.qo (q_move (v := .slice Ax_ x_.length cx_) rfl (by kernel_rfl))) ?_
        refine vg1 rfl rfl rfl rfl rfl (fun hg174 => QV.qo (q_len_slice rfl Try.underlying22 (gu hg174 rfl))) ?_
        refine vg1 rfl rfl rfl rfl rfl (fun hg175 => QV.qo (q_eql rfl (gu hg175 rfl) (gu hg175 rfl))) ?_
        refine va rfl rfl rfl (q_pick rfl rfl (pk_and' (g := ((z155.2 == 71) && (z166 == 4))) (y := (z171 == ((x_.length : Nat) : Int))))) ?_
        refine va rfl rfl rfl (q_assign (v := .bool (((z155.2 == 71) && (z166 == 4)) && (z171 == ((x_.length : Nat) : Int)))) rfl (by kernel_rfl)) ?_
        refine WR.nil ?_
        change WC _ _ _ _ _ _
        refine WC.ret ?_
        intro w hw
        obtain rfl := Option.some.inj h
        subst hF
        exact ⟨by kernel_rfl, hw.fr⟩
      · skip
        have h := bf hb154 h
        refine WR.unsat (c0 := true) (g := ((((((((z70.2 == 0) && (z109.2 == 0)) && (((z79.length : Nat) : Int) == 1)) && ((gt z79 0) == b)) && z89.2) && (!z99.2)) && ((⟨z89.1.toArray⟩ : ByteArray) == (⟨x_.toArray⟩ : ByteArray))) && ((⟨z118.1.toArray⟩ : ByteArray) == (⟨x_.toArray⟩ : ByteArray)))) rfl rfl rfl hb154 rfl ?_
        refine WR.unsat (c0 := true) (g := ((((((((z70.2 == 0) && (z109.2 == 0)) && (((z79.length : Nat) : Int) == 1)) && ((gt z79 0) == b)) && z89.2) && (!z99.2)) && ((⟨z89.1.toArray⟩ : ByteArray) == (⟨x_.toArray⟩ : ByteArray))) && ((⟨z118.1.toArray⟩ : ByteArray) == (⟨x_.toArray⟩ : ByteArray)))) rfl rfl rfl hb154 rfl ?_
        refine va rfl rfl rfl (q_pick_f (v := .bool false) rfl rfl hb154 (by kernel_rfl)) ?_
        refine va rfl rfl rfl (q_move (v := .bool false) rfl (by kernel_rfl)) ?_
        refine WR.unsat (c0 := true) (g := false) rfl rfl rfl rfl rfl ?_
        refine WR.unsat (c0 := true) (g := false) rfl rfl rfl rfl rfl ?_
        refine WR.unsat (c0 := true) (g := false) rfl rfl rfl rfl rfl ?_
        refine va rfl rfl rfl (q_pickf (v := .bool false) rfl rfl rfl) ?_
        refine va rfl rfl rfl (q_move (v := .bool false) rfl (by kernel_rfl)) ?_
        refine WR.unsat (c0 := true) (g := false) rfl rfl rfl rfl rfl ?_
        refine WR.unsat (c0 := true) (g := false) rfl rfl rfl rfl rfl ?_
        refine WR.unsat (c0 := true) (g := false) rfl rfl rfl rfl rfl ?_
        refine WR.unsat (c0 := true) (g := false) rfl rfl rfl rfl rfl ?_
        refine WR.unsat (c0 := true) (g := false) rfl rfl rfl rfl rfl ?_
        refine va rfl rfl rfl (q_pickf (v := .bool false) rfl rfl rfl) ?_
        refine va rfl rfl rfl (q_assign (v := .bool false) rfl (by kernel_rfl)) ?_
        refine WR.nil ?_
        change WC _ _ _ _ _ _
        refine WC.ret ?_
        intro w hw
        obtain rfl := Option.some.inj h
        subst hF
        exact ⟨by kernel_rfl, hw.fr⟩
end Fw
end Go.Proofs.Ytichdipjedoijaa
