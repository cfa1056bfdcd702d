/- Walks through the functions that the law reaches (printed by a program). No condition. -/
import Derived.Test.YtckindfllegbgaaGreatM
import Derived.Test.YtckindfllegbgaaGreatS
namespace Go.Proofs.YtckindfllegbgaaGreat
namespace Fw
set_option linter.unusedVariables false
set_option linter.unusedSimpArgs false
set_option linter.unusedSectionVars false
set_option maxRecDepth 100000
set_option maxHeartbeats 400000
open Go.RowKit
def Odisk_Disk.ob (e : TypeId) (Γ : Gh) (g : Nat) (row : Rowb) (x : Odisk_Disk) : Prop := ∃ (m1 : Nat) (r1 : Rowb) (m2 : Nat) (r2 : Rowb) (A3 : Option Addr) (c3 : Nat) (r3 : Rowb), row = ([[(g, .cells #[.int .i64 x.room, .map (some m1), .map (some m2), .slice A3 x.loose.length c3] e (0, 0))], r1, r2, r3] : List Rowb).flatten ∧ I64 x.room ∧ MapO (strK Tryz.underlying9) (slT byteT).v Γ r1 m1 x.safe_ ∧ MapO (strK Tryz.underlying9) (slT byteT).v Γ r2 m2 x.seen ∧ Own ddisk_changeT Γ 96 r3 A3 c3 x.loose ∧ True
theorem Odisk_Disk.ob.mono {e : TypeId} {Γ Δ : Gh} {g : Nat} {row : Rowb} {x : Odisk_Disk} (h : Odisk_Disk.ob e Γ g row x) (hs : Γ.le Δ) : Odisk_Disk.ob e Δ g row x := by
  obtain ⟨m1, r1, m2, r2, A3, c3, r3, hr, h0, h1, h2, h3, _⟩ := h
  exact ⟨m1, r1, m2, r2, A3, c3, r3, hr, h0, h1.mono hs, h2.mono hs, h3.mono hs, trivial⟩
abbrev YSframe_frames_1.ob (J : Gh → Rowb → YSframe_frames_1 → Prop) (Γ : Gh) (g : Nat) (row : Rowb) (x : YSframe_frames_1) : Prop := YS.ob J Γ g row x
theorem YSframe_frames_1.ob.mono {J : Gh → Rowb → YSframe_frames_1 → Prop} {Γ Δ : Gh} {g : Nat} {row : Rowb} {x : YSframe_frames_1} (h : YSframe_frames_1.ob J Γ g row x) (hs : Γ.le Δ) : YSframe_frames_1.ob J Δ g row x := YS.ob.mono h hs
abbrev YSseglog_place_parts_1.ob (J : Gh → Rowb → YSseglog_place_parts_1 → Prop) (Γ : Gh) (g : Nat) (row : Rowb) (x : YSseglog_place_parts_1) : Prop := YS.ob J Γ g row x
theorem YSseglog_place_parts_1.ob.mono {J : Gh → Rowb → YSseglog_place_parts_1 → Prop} {Γ Δ : Gh} {g : Nat} {row : Rowb} {x : YSseglog_place_parts_1} (h : YSseglog_place_parts_1.ob J Γ g row x) (hs : Γ.le Δ) : YSseglog_place_parts_1.ob J Δ g row x := YS.ob.mono h hs
def Oseglog_Log.ob (e : Nat × Nat) (Γ : Gh) (g : Nat) (row : Rowb) (x : Oseglog_Log) : Prop := row = ([[(g, .cells #[.pointer (some ⟨e.2, 0, none⟩), .string x.place_name, .int .i64 x.place_gen, .int .i64 x.size, .int .i64 x.last, .int .i64 x.tail, .int .i64 x.count, .int .i64 x.bytes] e.1 (0, 0))]] : List Rowb).flatten ∧ x.place_name.size ≤ lim ∧ I64 x.place_gen ∧ I64 x.size ∧ I64 x.last ∧ I64 x.tail ∧ I64 x.count ∧ I64 x.bytes ∧ True
theorem Oseglog_Log.ob.mono {e : Nat × Nat} {Γ Δ : Gh} {g : Nat} {row : Rowb} {x : Oseglog_Log} (h : Oseglog_Log.ob e Γ g row x) (hs : Γ.le Δ) : Oseglog_Log.ob e Δ g row x := by
  obtain ⟨hr, h0, h1, h2, h3, h4, h5, h6, _⟩ := h
  exact ⟨hr, h0, h1, h2, h3, h4, h5, h6, trivial⟩
def Ostore_Store.ob (e : Nat × Nat) (Γ : Gh) (g : Nat) (row : Rowb) (x : Ostore_Store) : Prop := ∃ (g0 : Nat) (r0 : Rowb) (m1 : Nat) (r1 : Rowb), row = ([[(g, .cells #[.pointer (some ⟨g0, 0, none⟩), .map (some m1)] e.1 (0, 0))], r0, r1] : List Rowb).flatten ∧ Oseglog_Log.ob (150, e.2) Γ g0 r0 x.log ∧ MapO (strK Tryz.underlying9) (slT byteT).v Γ r1 m1 x.keys ∧ True
theorem Ostore_Store.ob.mono {e : Nat × Nat} {Γ Δ : Gh} {g : Nat} {row : Rowb} {x : Ostore_Store} (h : Ostore_Store.ob e Γ g row x) (hs : Γ.le Δ) : Ostore_Store.ob e Δ g row x := by
  obtain ⟨g0, r0, m1, r1, hr, h0, h1, _⟩ := h
  exact ⟨g0, r0, m1, r1, hr, Oseglog_Log.ob.mono h0 hs, h1.mono hs, trivial⟩
def Ostore_Store.tob (e : Nat × Nat) : Tob Ostore_Store := ⟨fun Γ g row x => Ostore_Store.ob e Γ g row x, fun h hs => h.mono hs⟩
def Ocode_reader.ob (e : TypeId) (Γ : Gh) (g : Nat) (row : Rowb) (x : Ocode_reader) : Prop := ∃ (A0 : Option Addr) (c0 : Nat), row = ([[(g, .cells #[.slice A0 x.b.length c0, .int .i64 x.at_] e (0, 0))]] : List Rowb).flatten ∧ x.b.length ≤ c0 ∧ Sl byteT Γ A0 x.b ∧ I64 x.at_ ∧ True
theorem Ocode_reader.ob.mono {e : TypeId} {Γ Δ : Gh} {g : Nat} {row : Rowb} {x : Ocode_reader} (h : Ocode_reader.ob e Γ g row x) (hs : Γ.le Δ) : Ocode_reader.ob e Δ g row x := by
  obtain ⟨A0, c0, hr, h0, h1, h2, _⟩ := h
  exact ⟨A0, c0, hr, h0, h1.mono hs, h2, trivial⟩
def Onode_Node.ob (e : Nat × Nat) (Γ : Gh) (g : Nat) (row : Rowb) (x : Onode_Node) : Prop := ∃ (g4 : Nat) (r4 : Rowb) (m5 : Nat) (r5 : Rowb) (m6 : Nat) (r6 : Rowb), row = ([[(g, .cells #[.int .i64 x.life, .pointer (some ⟨e.2, 0, none⟩), .int .i64 x.self_site, .int .i64 x.self_node, .pointer (some ⟨g4, 0, none⟩), .map (some m5), .map (some m6)] e.1 (0, 0))], r4, r5, r6] : List Rowb).flatten ∧ I64 x.life ∧ I64 x.self_site ∧ I64 x.self_node ∧ Ostore_Store.ob (107, e.2) Γ g4 r4 x.own ∧ MapJ (intK Tryz.underlying3) (Ostore_Store.tob (107, e.2)) Γ r5 m5 x.hints ∧ MapO (intK Tryz.underlying3) (fnV g) Γ r6 m6 x.does ∧ True
theorem Onode_Node.ob.mono {e : Nat × Nat} {Γ Δ : Gh} {g : Nat} {row : Rowb} {x : Onode_Node} (h : Onode_Node.ob e Γ g row x) (hs : Γ.le Δ) : Onode_Node.ob e Δ g row x := by
  obtain ⟨g4, r4, m5, r5, m6, r6, hr, h0, h1, h2, h3, h4, h5, _⟩ := h
  exact ⟨g4, r4, m5, r5, m6, r6, hr, h0, h1, h2, Ostore_Store.ob.mono h3 hs, h4.mono hs, h5.mono hs, trivial⟩
def Ocode_writer.ob (e : TypeId) (Γ : Gh) (g : Nat) (row : Rowb) (x : Ocode_writer) : Prop := ∃ (A0 : Option Addr) (c0 : Nat) (r0 : Rowb), row = ([[(g, .cells #[.slice A0 x.b.length c0] e (0, 0))], r0] : List Rowb).flatten ∧ Own byteT Γ 5 r0 A0 c0 x.b ∧ True
theorem Ocode_writer.ob.mono {e : TypeId} {Γ Δ : Gh} {g : Nat} {row : Rowb} {x : Ocode_writer} (h : Ocode_writer.ob e Γ g row x) (hs : Γ.le Δ) : Ocode_writer.ob e Δ g row x := by
  obtain ⟨A0, c0, r0, hr, h0, _⟩ := h
  exact ⟨A0, c0, r0, hr, h0.mono hs, trivial⟩
abbrev r_disk_New (r : Odisk_Disk) (U : List Rowb) (Γ : Gh) (v : Value) : Prop := ∃ (g0 : Nat), ∃ (row0 : Rowb), v = .pointer (some ⟨g0, 0, none⟩) ∧ U = [row0] ∧ Odisk_Disk.ob 67 Γ g0 row0 r ∧ True
theorem t_disk_New {Γ : Gh} {w0 : World} (room : Int) (hroom : I64 room) (hp : Pre [] Γ w0) {r : Odisk_Disk} (h : m_disk_New room = some r) : Calls Tryz.prog 9 #[.int .i64 room] w0 (Outc Γ [] w0 (r_disk_New r)) := by
 refine calls_of (N := 10) (rs := [2]) (args := [.int .i64 room]) Tryz.func9 rfl Tryz.ntmps9 Tryz.results9 rfl ?_
 obtain ⟨F, hF⟩ : ∃ F : Fm, F = ⟨ids [], w0, Γ⟩ := ⟨_, rfl⟩
 refine WC.here (C := CC F Γ []) ?_ (hF ▸ hp.start)
 refine WC.rs (as_ (v := .pointer none) ?_)
 refine WR.done ?_
 refine WC.rs (mv (v := .int .i64 room) (vb (q_max rfl rfl rfl) (vb (q_min rfl rfl rfl) ?_)))
 refine e_makeMap (strK Tryz.underlying9) (slT byteT).v rfl rfl rfl rfl ?_
 intro g1 row2 hm3
 refine e_makeMap (strK Tryz.underlying9) (slT byteT).v rfl rfl rfl rfl ?_
 intro g4 row5 hm6
 refine vb (q_build' (v := .agg #[.int .i64 (min (max room 0) 1073741824), .map (some g1), .map (some g4), .slice none 0 0]) rfl (bargs3 rfl rfl rfl) (fun w => by kernel_rfl)) ?_
 refine e_box (v := .agg #[.int .i64 (min (max room 0) 1073741824), .map (some g1), .map (some g4), .slice none 0 0]) rfl rfl rfl rfl (by kernel_rfl) ?_
 intro g7
 refine as_ (v := (pq g7)) ?_
 refine WR.done ?_
 refine WC.ret ?_
 intro w hw
 have hw := hw.pad
 obtain ⟨row_8, hrow_8, hob_8⟩ : ∃ rw : Rowb, rw = ([[(g7, .cells #[.int .i64 (min (max room 0) 1073741824), .map (some g1), .map (some g4), .slice none 0 0] 67 (0, 0))], row2, row5, []] : List Rowb).flatten ∧ Odisk_Disk.ob 67 Γ g7 rw (⟨(min (max room 0) 1073741824), ([] : List (ByteArray × (List UInt8))), ([] : List (ByteArray × (List UInt8))), []⟩ : Odisk_Disk) := ⟨_, rfl, g1, row2, g4, row5, none, 0, [], rfl, (min_r (max_r hroom (show I64 0 by decide)) (show I64 1073741824 by decide)), hm3, hm6, (Own.nil ddisk_changeT Γ 96), trivial⟩
 have hw := hw.fold (is := [1, 2, 1, 0]) rfl hrow_8
 obtain rfl := Option.some.inj h
 subst hF
 exact end_e (is := [0]) (by kernel_rfl) hw rfl ⟨g7, row_8, rfl, rfl, hob_8, trivial⟩
theorem t_firthlaw15_at {Γ : Gh} {w0 : World} (n : Int) (hn : I64 n) (hs : Sat Γ w0) {r : Adr} (h : m_firthlaw15_at n = some r) : Calls Tryz.prog 11 #[.int .i64 n] w0 (fun e w' => e = .returned (.agg #[.int .i64 r.site, .int .i64 r.node]) ∧ Fr no w0 w') := by
 refine calls_of_r (N := 5) (rs := [.cell 2 32]) (args := [.int .i64 n]) Tryz.func11 rfl Tryz.ntmps11 Tryz.results11 rfl ?_
 obtain ⟨F, hF⟩ : ∃ F : Fm, F = ⟨no, w0, Γ⟩ := ⟨_, rfl⟩
 refine WC.here (C := CC F Γ []) ?_ (hF ▸ Cur.start0 hs)
 refine WC.rs ?_
 refine e_alloc Tryz.zeroValue32 rfl rfl rfl rfl ?_
 intro g1
 refine WR.done ?_
 refine WC.rs (mv (v := .int .i64 n) (vb (q_build' (v := .agg #[.int .i64 1, .int .i64 n]) rfl (bargs2 rfl rfl) (fun w => by kernel_rfl)) ?_))
 refine e_st (i := 0) (v := .agg #[.int .i64 1, .int .i64 n]) (new := #[.int .i64 1, .int .i64 n]) rfl Tryz.sizeOf32 rfl rfl rfl rfl (by kernel_rfl) rfl rfl rfl rfl ?_
 refine WR.done ?_
 refine WC.ret ?_
 intro w hw
 obtain rfl := Option.some.inj h
 subst hF
 exact ⟨[.agg #[.int .i64 1, .int .i64 n]], (rr_agg (i := 0) (us := [.int .i64 1, .int .i64 n]) hw rfl Tryz.isAgg32 Tryz.sizeOf32 (by kernel_rfl) rfl rr_nil), by kernel_rfl, hw.fr⟩
theorem t_internal_stringslite_IndexByte {Γ : Gh} {w0 : World} (s_ : ByteArray) (hs_ : s_.size ≤ lim) (c_ : Int) (hc_ : U8 c_) (hs : Sat Γ w0) {r : Int} (h : m_internal_stringslite_IndexByte s_ c_ = some r) : Calls Tryz.prog 186 #[.string s_, .int .u8 c_] w0 (fun e w' => e = .returned (.int .i64 r) ∧ Fr no w0 w') := by
 refine calls_of (N := 8) (rs := [4]) (args := [.string s_, .int .u8 c_]) Tryz.func186 rfl Tryz.ntmps186 Tryz.results186 rfl ?_
 obtain ⟨F, hF⟩ : ∃ F : Fm, F = ⟨no, w0, Γ⟩ := ⟨_, rfl⟩
 refine WC.here (C := CC F Γ []) ?_ (hF ▸ Cur.start0 hs)
 refine WC.rs (as_ (v := .int .i64 0) ?_)
 refine WR.done ?_
 refine WC.rs (mv (v := .string s_) (mv (v := .int .u8 c_) (vb (q_ixb (s := s_) (c := c_) Tryz.func215 (by kernel_rfl) (by kernel_rfl) (by kernel_rfl) (by kernel_rfl) rfl (by kernel_rfl)) (as_ (v := .int .i64 (ixb s_ c_)) ?_))))
 refine WR.done ?_
 refine WC.ret ?_
 intro w hw
 obtain rfl := Option.some.inj h
 subst hF
 exact ⟨by kernel_rfl, hw.fr⟩
theorem t_internal_stringslite_Index {Γ : Gh} {w0 : World} (s_ : ByteArray) (hs_ : s_.size ≤ lim) (hs : Sat Γ w0) {r : Int} (h : m_internal_stringslite_Index s_ = some r) : Calls Tryz.prog 152 #[.string s_, .string (⟨#[46]⟩ : ByteArray)] w0 (fun e w' => e = .returned (.int .i64 r) ∧ Fr no w0 w') := by
 refine calls_of (N := 143) (rs := [4]) (args := [.string s_, .string (⟨#[46]⟩ : ByteArray)]) Tryz.func152 rfl Tryz.ntmps152 Tryz.results152 rfl ?_
 obtain ⟨F, hF⟩ : ∃ F : Fm, F = ⟨no, w0, Γ⟩ := ⟨_, rfl⟩
 refine WC.here (C := CC F Γ []) ?_ (hF ▸ Cur.start0 hs)
 refine WC.rs (as_ (v := .int .i64 0) ?_)
 refine WR.done ?_
 refine WC.rs (mv (v := .string (⟨#[46]⟩ : ByteArray)) (vb (show QV _ _ _ _ (.int .i64 1) from (show QV _ _ _ _ (.int .i64 (((⟨#[46]⟩ : ByteArray).size : Nat) : Int)) from q_len_str rfl Tryz.underlying9 rfl)) (as_ (v := .int .i64 1) ?_)))
 refine WR.done ?_
 refine WC.seq (WC.block (WC.rs (mv (v := .int .i64 1) (vb (q_eql rfl rfl rfl) (mv (v := .bool (1 == 0)) ?_)))))
 refine WR.sat (c0 := true) (g := (1 == 0)) rfl rfl rfl (notf (show (((1 : Int) == 0)) = false by decide)) ?_
 refine mv (v := .string (⟨#[46]⟩ : ByteArray)) ?_
 refine WR.sat (c0 := true) (g := (1 == 0)) rfl rfl rfl (notf (show (((1 : Int) == 0)) = false by decide)) ?_
 refine mv (v := .string s_) ?_
 refine WR.sat (c0 := true) (g := (1 == 0)) rfl rfl rfl (notf (show (((1 : Int) == 0)) = false by decide)) ?_
 refine vb (q_seql rfl rfl rfl) (vb (q_pick_f (v := .bool ((⟨#[46]⟩ : ByteArray) == s_)) rfl rfl (show (((1 : Int) == 0)) = false by decide) (by kernel_rfl)) (as_ (v := .bool ((⟨#[46]⟩ : ByteArray) == s_)) ?_))
 refine WR.done ?_
 refine WC.cif h (by kernel_rfl) (fun hb1 h => ?_) (fun hb1 h => ?_)
 ·
  refine WC.rs (as_ (v := .int .i64 0) ?_)
  refine WR.done ?_
  refine WC.ret ?_
  intro w hw
  obtain rfl := Option.some.inj h
  subst hF
  exact ⟨by kernel_rfl, hw.fr⟩
 ·
  refine WC.rs (mv (v := .int .i64 1) (vb (q_eql rfl rfl rfl) (as_ (v := .bool (1 == 1)) ?_)))
  refine WR.done ?_
  refine WC.ctk (b := (1 == 1)) (by kernel_rfl) (show (((1 : Int) == 1)) = true by decide) ?_
  refine WC.rs (mv (v := .string s_) (mv (v := .string (⟨#[46]⟩ : ByteArray)) (vb (show QV _ _ _ _ (.int .u8 46) from q_sixn (s := (⟨#[46]⟩ : ByteArray)) (i := 0) Tryz.underlying9 rfl rfl rfl (by decide)) ?_)))
  obtain ⟨z2, hz3, h⟩ := bnd h
  refine vc rfl rfl rfl (q_call (call_run Tryz.call186 rfl rfl (by kernel_rfl)) (fun w hw => t_internal_stringslite_IndexByte (Γ := Gh.all w) s_ hs_ 46 (show U8 46 by decide) (Sat.all w) hz3)) (as_ (v := .int .i64 z2) ?_)
  refine WR.done ?_
  refine WC.ret ?_
  intro w hw
  obtain rfl := Option.some.inj h
  subst hF
  exact ⟨by kernel_rfl, hw.fr⟩
theorem t_strings_Index {Γ : Gh} {w0 : World} (s_ : ByteArray) (hs_ : s_.size ≤ lim) (hs : Sat Γ w0) {r : Int} (h : m_strings_Index s_ = some r) : Calls Tryz.prog 118 #[.string s_, .string (⟨#[46]⟩ : ByteArray)] w0 (fun e w' => e = .returned (.int .i64 r) ∧ Fr no w0 w') := by
 refine calls_of (N := 8) (rs := [4]) (args := [.string s_, .string (⟨#[46]⟩ : ByteArray)]) Tryz.func118 rfl Tryz.ntmps118 Tryz.results118 rfl ?_
 obtain ⟨F, hF⟩ : ∃ F : Fm, F = ⟨no, w0, Γ⟩ := ⟨_, rfl⟩
 refine WC.here (C := CC F Γ []) ?_ (hF ▸ Cur.start0 hs)
 refine WC.rs (as_ (v := .int .i64 0) ?_)
 refine WR.done ?_
 refine WC.rs (mv (v := .string s_) (mv (v := .string (⟨#[46]⟩ : ByteArray)) ?_))
 obtain ⟨z1, hz2, h⟩ := bnd h
 refine vc rfl rfl rfl (q_call (call_run Tryz.call152 rfl rfl (by kernel_rfl)) (fun w hw => t_internal_stringslite_Index (Γ := Gh.all w) s_ hs_ (Sat.all w) hz2)) (as_ (v := .int .i64 z1) ?_)
 refine WR.done ?_
 refine WC.ret ?_
 intro w hw
 obtain rfl := Option.some.inj h
 subst hF
 exact ⟨by kernel_rfl, hw.fr⟩
theorem t_strings_Contains {Γ : Gh} {w0 : World} (s_ : ByteArray) (hs_ : s_.size ≤ lim) (hs : Sat Γ w0) {r : Bool} (h : m_strings_Contains s_ = some r) : Calls Tryz.prog 83 #[.string s_, .string (⟨#[46]⟩ : ByteArray)] w0 (fun e w' => e = .returned (.bool r) ∧ Fr no w0 w') := by
 refine calls_of (N := 9) (rs := [4]) (args := [.string s_, .string (⟨#[46]⟩ : ByteArray)]) Tryz.func83 rfl Tryz.ntmps83 Tryz.results83 rfl ?_
 obtain ⟨F, hF⟩ : ∃ F : Fm, F = ⟨no, w0, Γ⟩ := ⟨_, rfl⟩
 refine WC.here (C := CC F Γ []) ?_ (hF ▸ Cur.start0 hs)
 refine WC.rs (as_ (v := .bool false) ?_)
 refine WR.done ?_
 refine WC.rs (mv (v := .string s_) (mv (v := .string (⟨#[46]⟩ : ByteArray)) ?_))
 obtain ⟨z1, hz2, h⟩ := bnd h
 refine vc rfl rfl rfl (q_call (call_run Tryz.call118 rfl rfl (by kernel_rfl)) (fun w hw => t_strings_Index (Γ := Gh.all w) s_ hs_ (Sat.all w) hz2)) (vb (q_geq rfl rfl rfl) (as_ (v := .bool (decide (0 ≤ z1))) ?_))
 refine WR.done ?_
 refine WC.ret ?_
 intro w hw
 obtain rfl := Option.some.inj h
 subst hF
 exact ⟨by kernel_rfl, hw.fr⟩
theorem t_seglog_place_list {Γ : Gh} {w0 : World} {gp__0 : Nat} (p__1 : ByteArray) (hp__1 : p__1.size ≤ lim) (p__2 : Int) (hp__2 : I64 p__2) (hs : Sat Γ w0) {r : ByteArray} (h : m_seglog_place_list p__1 p__2 = some r) : Calls Tryz.prog 87 #[.agg #[(pq gp__0), .string p__1, .int .i64 p__2]] w0 (fun e w' => e = .returned (.string r) ∧ Fr no w0 w') := by
 refine calls_of (N := 6) (rs := [2]) (args := [.agg #[(pq gp__0), .string p__1, .int .i64 p__2]]) Tryz.func87 rfl Tryz.ntmps87 Tryz.results87 rfl ?_
 obtain ⟨F, hF⟩ : ∃ F : Fm, F = ⟨no, w0, Γ⟩ := ⟨_, rfl⟩
 refine WC.here (C := CC F Γ []) ?_ (hF ▸ Cur.start0 hs)
 refine WC.rs ?_
 refine e_box (v := .agg #[(pq gp__0), .string p__1, .int .i64 p__2]) rfl rfl rfl rfl (by kernel_rfl) ?_
 intro g1
 refine as_ (v := .string ByteArray.empty) ?_
 refine WR.done ?_
 refine WC.rs (vb (q_fl 1 fld_141_1 rfl rfl rfl) (vb (q_ldl (i := 0) (v := .string p__1) rfl rfl Tryz.isAgg9 rfl rfl) (vb (q_sadd rfl rfl rfl hp__1 (show (⟨#[46, 109]⟩ : ByteArray).size ≤ lim by decide)) (as_ (v := .string (p__1 ++ (⟨#[46, 109]⟩ : ByteArray))) ?_))))
 refine WR.done ?_
 refine WC.ret ?_
 intro w hw
 obtain rfl := Option.some.inj h
 subst hF
 exact ⟨by kernel_rfl, hw.fr⟩
abbrev r_slices_Clone_byte_byte (r : List UInt8) (U : List Rowb) (Γ : Gh) (v : Value) : Prop := ∃ (A0 : Option Addr), ∃ (c0 : Nat), ∃ (row0 : Rowb), v = .slice A0 r.length c0 ∧ U = [row0] ∧ Own byteT Γ 5 row0 A0 c0 r ∧ True
theorem t_slices_Clone_byte_byte {Γ : Gh} {w0 : World} {As_ : Option Addr} {cs_ : Nat} {s_ : List UInt8} (hs_ : Sl byteT Γ As_ s_) (hs_c : s_.length ≤ cs_) (hp : Pre [] Γ w0) {r : List UInt8} (h : m_slices_Clone_byte_byte s_ = some r) : Calls Tryz.prog 66 #[.slice As_ s_.length cs_] w0 (Outc Γ [] w0 (r_slices_Clone_byte_byte r)) := by
 refine calls_of (N := 8) (rs := [2]) (args := [.slice As_ s_.length cs_]) Tryz.func66 rfl Tryz.ntmps66 Tryz.results66 rfl ?_
 obtain ⟨F, hF⟩ : ∃ F : Fm, F = ⟨ids [], w0, Γ⟩ := ⟨_, rfl⟩
 refine WC.here (C := CC F Γ []) ?_ (hF ▸ hp.start)
 refine WC.rs (as_ (v := .slice none 0 0) ?_)
 refine WR.done ?_
 refine WC.seq (WC.rs (mv (v := .slice As_ s_.length cs_) (vb (q_nil_slice Tryz.underlying77 rfl rfl rfl) ?_)))
 refine WR.done ?_
 refine WC.cnil h (by kernel_rfl) (fun hb => hs_.none_nil hb) (fun hb1 h => ?_) (fun hb1 h => ?_)
 ·
  refine WC.rs (as_ (v := .slice none 0 0) ?_)
  refine WR.done ?_
  refine WC.ret ?_
  intro w hw
  have hw := hw.pad
  obtain rfl := Option.some.inj h
  subst hF
  exact end_e (is := [0]) (by kernel_rfl) hw rfl ⟨none, 0, [], rfl, rfl, (Own.nil byteT _ 5), trivial⟩
 ·
  refine WC.skip ?_
  change WC _ _ _ _ _ _
  refine WC.rs ?_
  refine e_buildSlice (cs := #[]) (e := 5) rfl rfl rfl rfl (fun w => by kernel_rfl) ?_
  intro g2
  refine mv (v := .slice As_ s_.length cs_) ?_
  have ho3 : Own byteT Γ 5 [(g2, .cells #[] 5 (0, 0))] (some ⟨g2, 0, none⟩) 0 ([] : List UInt8) := Own.of_blockL (T := byteT) (ys := ([] : List UInt8)) [] rfl (show 0 ≤ lim by decide) (show True from trivial)
  obtain ⟨hk4, h⟩ := chk_some h
  refine e_append (T := byteT) (xs := ([] : List UInt8)) (ys := s_) elem_77 (i := 0) rfl rfl rfl rfl rfl rfl rfl ho3 (of_decide_eq_true hk4) (fun w hw => src_sl hs_ hw) ?_
  intro row5 A6 c7 ho8
  refine as_ (v := .slice A6 (([] : List UInt8) ++ s_).length c7) ?_
  refine WR.done ?_
  refine WC.ret ?_
  intro w hw
  obtain rfl := Option.some.inj h
  subst hF
  exact end_e (is := [0]) (by kernel_rfl) hw rfl ⟨A6, c7, row5, rfl, rfl, ho8, trivial⟩
abbrev r_disk_Disk_Read (gd : Nat) (ed : Nat) (rowd : Rowb) (r : (List UInt8) × Bool) (U : List Rowb) (Γ : Gh) (v : Value) : Prop := ∃ (A0 : Option Addr), ∃ (c0 : Nat), ∃ (row0 : Rowb), v = .tuple #[.slice A0 r.1.length c0, .bool r.2] ∧ U = [rowd, row0] ∧ Own byteT Γ 5 row0 A0 c0 r.1 ∧ True
theorem t_disk_Disk_Read {Γ : Gh} {w0 : World} {gd ed : Nat} {rowd : Rowb} {d : Odisk_Disk} (hd : Odisk_Disk.ob ed Γ gd rowd d) (name : ByteArray) (hname : name.size ≤ lim) (hp : Pre [rowd] Γ w0) {r : (List UInt8) × Bool} (h : m_disk_Disk_Read d name = some r) : Calls Tryz.prog 39 #[(pq gd), .string name] w0 (Outc Γ [rowd] w0 (r_disk_Disk_Read gd ed rowd r)) := by
 refine calls_of (N := 20) (rs := [4, 5]) (args := [(pq gd), .string name]) Tryz.func39 rfl Tryz.ntmps39 Tryz.results39 rfl ?_
 obtain ⟨F, hF⟩ : ∃ F : Fm, F = ⟨ids [rowd], w0, Γ⟩ := ⟨_, rfl⟩
 refine WC.here (C := CC F Γ [rowd]) ?_ (hF ▸ hp.start)
 refine WC.rs (as_ (v := .slice none 0 0) (as_ (v := .bool false) ?_))
 refine WR.done ?_
 refine WC.rs (mv (v := (pq gd)) (vb (q_nil (A := some ⟨gd, 0, none⟩) rfl rfl rfl) (vb (q_fl 2 fld_67_2 rfl rfl rfl) ?_)))
 have hq := hd
 obtain ⟨m1_1, r1_1, m2_1, r2_1, A3_1, c3_1, r3_1, hrow_1, ho0_1, ho1_1, ho2_1, ho3_1, -⟩ := hq
 intro w hw; have hw := hw.unfold (i := 0) rfl hrow_1
 refine WR.here (C := CC F Γ [[(gd, .cells #[.int .i64 d.room, .map (some m1_1), .map (some m2_1), .slice A3_1 d.loose.length c3_1] ed (0, 0))], r1_1, r2_1, r3_1]) ?_ hw
 clear hw
 refine vb (q_ldl (i := 0) (v := .map (some m2_1)) rfl rfl Tryz.isAgg64 rfl rfl) (mv (v := .string name) ?_)
 obtain ⟨v2, ⟨A5, c6, hv3, hc7, hs8⟩, hat4⟩ := MapO.look ho2_1 name (z := .slice none 0 0) (zx := []) ⟨none, 0, rfl, Nat.zero_le _, Sl.nil _ _ _⟩
 obtain rfl : v2 = _ := List.cons.inj hv3 |>.1
 refine vb (q_lookup2 (v := .slice A5 ((mget name d.seen).getD []).length c6) hat4 rfl Tryz.underlying64 Tryz.zeroValue77 rfl rfl (i := 2) rfl) (mv (v := .tuple #[.slice A5 ((mget name d.seen).getD []).length c6, .bool ((mget name d.seen).isSome)]) (vb (q_extract (v := .slice A5 ((mget name d.seen).getD []).length c6) rfl rfl rfl) (vb (q_extract (v := .bool ((mget name d.seen).isSome)) rfl rfl rfl) (as_ (v := .slice A5 ((mget name d.seen).getD []).length c6) (as_ (v := .bool ((mget name d.seen).isSome)) ?_)))))
 refine WR.done ?_
 refine WC.rs (mv (v := .slice A5 ((mget name d.seen).getD []).length c6) ?_)
 obtain ⟨z9, hz10, h⟩ := bnd h
 refine e_call (is := []) rfl rfl (call_run Tryz.call66 rfl rfl (by kernel_rfl)) rfl (fun w hp => t_slices_Clone_byte_byte hs8 hc7 hp hz10) ?_
 rintro Γ11 U13 v14 hl12 ⟨A15, c16, row17, rfl, rfl, hr18, _⟩
 change WR _ _ _ (CC F Γ11 [row17, [(gd, .cells #[.int .i64 d.room, .map (some m1_1), .map (some m2_1), .slice A3_1 d.loose.length c3_1] ed (0, 0))], r1_1, r2_1, r3_1]) _ _ (upd _ 18 (.slice A15 z9.length c16))
 refine mv (v := .bool ((mget name d.seen).isSome)) (as_ (v := .slice A15 z9.length c16) (as_ (v := .bool ((mget name d.seen).isSome)) ?_))
 refine WR.done ?_
 refine WC.ret ?_
 intro w hw
 have hw := hw.fold (is := [1, 1, 1, 1]) rfl hrow_1
 obtain rfl := Option.some.inj h
 subst hF
 exact end_e (is := [0, 0]) (by kernel_rfl) hw rfl ⟨A15, c16, row17, rfl, rfl, hr18, trivial⟩
theorem t_num_Num {Γ : Gh} {w0 : World} {Ab : Option Addr} {cb : Nat} {b : List UInt8} (hb : Sl byteT Γ Ab b) (hbc : b.length ≤ cb) (at_ : Int) (hat_ : I64 at_) (hs : Sat Γ w0) {r : Int × Int × Int} (h : m_num_Num b at_ = some r) : Calls Tryz.prog 120 #[.slice Ab b.length cb, .int .i64 at_] w0 (fun e w' => e = .returned (.tuple #[.int .i64 r.1, .int .i64 r.2.1, .int .i64 r.2.2]) ∧ Fr no w0 w') := by
 refine calls_of (N := 66) (rs := [4, 5, 6]) (args := [.slice Ab b.length cb, .int .i64 at_]) Tryz.func120 rfl Tryz.ntmps120 Tryz.results120 rfl ?_
 obtain ⟨F, hF⟩ : ∃ F : Fm, F = ⟨no, w0, Γ⟩ := ⟨_, rfl⟩
 refine WC.here (C := CC F Γ []) ?_ (hF ▸ Cur.start0 hs)
 refine WC.rs (as_ (v := .int .i64 0) (as_ (v := .int .i64 0) (as_ (v := .int .i64 0) ?_)))
 refine WR.done ?_
 refine WC.scope (WC.seq (WC.rs (mv (v := .int .i64 at_) (vb (q_lss rfl rfl rfl) (mv (v := .bool (decide (at_ < 0))) (vg0 rfl rfl rfl rfl rfl (fun hg1 => QV.qo (q_move (v := .int .i64 at_) rfl (by kernel_rfl))) (vg0 rfl rfl rfl rfl rfl (fun hg2 => QV.qo (q_move (v := .slice Ab b.length cb) rfl (by kernel_rfl))) ?_)))))))
 refine vg0 rfl rfl rfl rfl rfl (fun hg3 => QV.qo (q_len_slice rfl Tryz.underlying77 (gu hg3 rfl))) (vg0 rfl rfl rfl rfl rfl (fun hg4 => QV.qo (q_gtr rfl (gu hg4 rfl) (gu hg4 rfl))) (vb (q_pick rfl rfl (pk_or' (g := (decide (at_ < 0))) (y := (decide (((b.length : Nat) : Int) < at_))))) ?_))
 refine WR.done ?_
 refine WC.cif h (by kernel_rfl) (fun hb5 h => ?_) (fun hb5 h => ?_)
 ·
  refine WC.rs (as_ (v := .int .i64 0) (as_ (v := .int .i64 0) (as_ (v := .int .i64 1) ?_)))
  refine WR.done ?_
  refine WC.ret ?_
  intro w hw
  obtain rfl := Option.some.inj h
  subst hF
  exact ⟨by kernel_rfl, hw.fr⟩
 ·
  refine WC.skip ?_
  change WC _ _ _ _ _ _
  refine WC.rs (as_ (v := .int .i64 4) ?_)
  refine WR.done ?_
  refine WC.rs (as_ (v := .int .u64 0) ?_)
  refine WR.done ?_
  refine WC.seq ?_
  refine WC.label ?_
  change WC _ _ _ _ _ _
  refine WC.cut (fun σ w => ∃ (e_6 : Int), m_num_Num_j1 e_6 = some r ∧ slots σ [(7, .int .i64 e_6)] ∧ CC F Γ [] w ∧ I64 e_6 ∧ True) ?_ ?_
  ·
   refine WC.rs (mv (v := .slice Ab b.length cb) (mv (v := .int .i64 at_) ?_))
   obtain ⟨hk8, h⟩ := chk_some h
   refine vb (q_cut_from (c := cb) (lo := at_.toNat) (xs := b) Tryz.underlying77 Tryz.sizeOf5 rfl rfl (inle_eq rfl hk8) (inle_le hk8)) (vb (q_len_slice rfl Tryz.underlying77 rfl) (mv (v := .int .i64 0) ?_))
   refine WR.done ?_
   refine WC.block ?_
   refine WC.forI h (fun (i11 : Nat) (n_9 : Int) σ w => slots σ [(1, .int .i64 at_), (7, .int .i64 4), (8, .int .u64 n_9), (21, .slice (if cb = at_.toNat then Ab else Option.map (fun a => a.add (at_.toNat * 1)) Ab) (List.drop at_.toNat b).length (cb - at_.toNat)), (22, .int .i64 (((List.drop at_.toNat b).length : Nat) : Int)), (23, .int .i64 ((i11 : Nat) : Int))] ∧ CC F Γ [] w ∧ True) ?_ ?_
   ·
    intro w hw
    exact ⟨(sl_ (by kernel_rfl)), hw, trivial⟩
   rintro f10 i11 n_9 σ w hi12 hlt13 hge14 ⟨hsl, hw, -⟩
   refine Wpt.slots hsl ?_
   refine WC.here (C := CC F Γ []) ?_ hw
   clear hw hsl
   refine WC.rs (vb (q_lss rfl rfl rfl) ?_)
   refine WR.done ?_
   refine WC.seq ?_
   refine WC.cond (b := (decide (((i11 : Nat) : Int) < (((List.drop at_.toNat b).length : Nat) : Int)))) (by kernel_rfl) (fun hb15 => ?_) (fun hb15 => ?_)
   ·
    have hl16 := ilt hb15
    have h := hlt13 hl16
    refine WC.skip ?_
    change WC _ _ _ _ _ _
    refine WC.seq (WC.block (WC.rs (mv (v := .int .i64 ((i11 : Nat) : Int)) (vb (q_ixn (i := i11) Tryz.underlying77 Tryz.sizeOf5 rfl rfl rfl hl16 ((hb.cut_from (c := cb) (lo := at_.toNat) (inle_le hk8) hbc).some_ hl16)) (vb (q_ld (c := 0) (v := .int .u8 (((gt (List.drop at_.toNat b) i11).toNat : Nat) : Int)) ((hb.cut_from (c := cb) (lo := at_.toNat) (inle_le hk8) hbc).byteT_at hl16).2 rfl Tryz.isAgg5 rfl rfl) (as_ (v := .int .i64 ((i11 : Nat) : Int)) (as_ (v := .int .u8 (((gt (List.drop at_.toNat b) i11).toNat : Nat) : Int)) ?_)))))))
    refine WR.done ?_
    refine WC.seq (WC.block ?_)
    refine WC.cut (fun σ w => ∃ (x_17 : Bool), m_num_Num_j11 b at_ n_9 f10 i11 x_17 = some r ∧ slots σ [(1, .int .i64 at_), (7, .int .i64 4), (8, .int .u64 n_9), (9, .int .i64 ((i11 : Nat) : Int)), (10, .int .u8 (((gt (List.drop at_.toNat b) i11).toNat : Nat) : Int)), (21, .slice (if cb = at_.toNat then Ab else Option.map (fun a => a.add (at_.toNat * 1)) Ab) (List.drop at_.toNat b).length (cb - at_.toNat)), (22, .int .i64 (((List.drop at_.toNat b).length : Nat) : Int)), (23, .int .i64 ((i11 : Nat) : Int)), (28, .bool x_17)] ∧ CC F Γ [] w ∧ True) ?_ ?_
    ·
     refine WC.rs (mv (v := .int .i64 ((i11 : Nat) : Int)) (vb (q_eql rfl rfl rfl) (mv (v := .bool (((i11 : Nat) : Int) == 8)) (vg1 rfl rfl rfl rfl rfl (fun hg18 => QV.qo (q_move (v := .int .u8 (((gt (List.drop at_.toNat b) i11).toNat : Nat) : Int)) rfl (by kernel_rfl))) (vg1 rfl rfl rfl rfl rfl (fun hg19 => QV.qo (q_gtr rfl (gu hg19 rfl) rfl)) (vb (q_pick rfl rfl (pk_and' (g := (((i11 : Nat) : Int) == 8)) (y := (decide (127 < (((gt (List.drop at_.toNat b) i11).toNat : Nat) : Int)))))) (as_ (v := .bool ((((i11 : Nat) : Int) == 8) && (decide (127 < (((gt (List.drop at_.toNat b) i11).toNat : Nat) : Int))))) ?_)))))))
     refine WR.done ?_
     refine WC.cif h (by kernel_rfl) (fun hb20 h => ?_) (fun hb20 h => ?_)
     ·
      refine WC.skip ?_
      intro w hw
      exact ⟨((((i11 : Nat) : Int) == 8) && (decide (127 < (((gt (List.drop at_.toNat b) i11).toNat : Nat) : Int)))), h, (sl_ (by kernel_rfl)), hw, trivial⟩
     ·
      refine WC.region ?_
      refine mv (v := .int .i64 ((i11 : Nat) : Int)) (vb (q_gtr rfl rfl rfl) (mv (v := .bool (decide (0 < ((i11 : Nat) : Int)))) (vg1 rfl rfl rfl rfl rfl (fun hg21 => QV.qo (q_move (v := .int .u8 (((gt (List.drop at_.toNat b) i11).toNat : Nat) : Int)) rfl (by kernel_rfl))) (vg1 rfl rfl rfl rfl rfl (fun hg22 => QV.qo (q_eql rfl (gu hg22 rfl) rfl)) (vb (q_pick rfl rfl (pk_and' (g := (decide (0 < ((i11 : Nat) : Int)))) (y := ((((gt (List.drop at_.toNat b) i11).toNat : Nat) : Int) == 0)))) (as_ (v := .bool ((decide (0 < ((i11 : Nat) : Int))) && ((((gt (List.drop at_.toNat b) i11).toNat : Nat) : Int) == 0))) ?_))))))
      refine WR.nil ?_
      intro w hw
      exact ⟨((decide (0 < ((i11 : Nat) : Int))) && ((((gt (List.drop at_.toNat b) i11).toNat : Nat) : Int) == 0)), h, (sl_ (by kernel_rfl)), hw, trivial⟩
    ·
     rintro σ w ⟨x_17, h, hsl, hw, -⟩
     refine Wpt.slots hsl ?_
     refine WC.here (C := CC F Γ []) ?_ hw
     clear hw hsl
     refine WC.cif h (by kernel_rfl) (fun hb23 h => ?_) (fun hb23 h => ?_)
     ·
      refine WC.rs (as_ (v := .int .i64 2) ?_)
      refine WR.done ?_
      refine WC.exit ?_
      intro w hw
      exact ⟨2, h, (sl_ (by kernel_rfl)), hw, (show I64 2 by decide), trivial⟩
     ·
      refine WC.rs (mv (v := .int .u8 (((gt (List.drop at_.toNat b) i11).toNat : Nat) : Int)) (vb (q_lss rfl rfl rfl) (as_ (v := .bool (decide ((((gt (List.drop at_.toNat b) i11).toNat : Nat) : Int) < 128))) ?_)))
      refine WR.done ?_
      refine WC.cif h (by kernel_rfl) (fun hb24 h => ?_) (fun hb24 h => ?_)
      ·
       refine WC.rs (mv (v := .int .u64 n_9) (mv (v := .int .u8 (((gt (List.drop at_.toNat b) i11).toNat : Nat) : Int)) (vb (q_conv Tryz.underlying82 Tryz.underlying5 rfl rfl) (mv (v := .int .i64 ((i11 : Nat) : Int)) (vb (q_mul rfl rfl rfl) ?_)))))
       obtain ⟨hk25, h⟩ := chk_some h
       refine vb (q_shl rfl rfl rfl hk25) (vb (q_or rfl rfl rfl) (vb (q_conv Tryz.underlying2 Tryz.underlying82 rfl rfl) (mv (v := .int .i64 at_) (mv (v := .int .i64 ((i11 : Nat) : Int)) (vb (q_add rfl rfl rfl) (vb (q_add rfl rfl rfl) (as_ (v := .int .i64 (w64 (ior .u64 n_9 (ishl .u64 (wu64 (((gt (List.drop at_.toNat b) i11).toNat : Nat) : Int)) (w64 (7 * ((i11 : Nat) : Int))))))) ?_)))))))
       refine as_ (v := .int .i64 (w64 ((w64 (at_ + ((i11 : Nat) : Int))) + 1))) (as_ (v := .int .i64 0) ?_)
       refine WR.done ?_
       refine WC.ret ?_
       intro w hw
       obtain rfl := Option.some.inj h
       subst hF
       exact ⟨by kernel_rfl, hw.fr⟩
      ·
       refine WC.skip ?_
       change WC _ _ _ _ _ _
       refine WC.region ?_
       refine mv (v := .int .u64 n_9) (mv (v := .int .u8 (((gt (List.drop at_.toNat b) i11).toNat : Nat) : Int)) (vb (q_and rfl rfl rfl) (vb (q_conv Tryz.underlying82 Tryz.underlying5 rfl rfl) (mv (v := .int .i64 ((i11 : Nat) : Int)) (vb (q_mul rfl rfl rfl) ?_)))))
       obtain ⟨hk26, h⟩ := chk_some h
       refine vb (q_shl rfl rfl rfl hk26) (vb (q_or rfl rfl rfl) (as_ (v := .int .u64 (ior .u64 n_9 (ishl .u64 (wu64 (iand .u8 (((gt (List.drop at_.toNat b) i11).toNat : Nat) : Int) 127)) (w64 (7 * ((i11 : Nat) : Int)))))) ?_))
       refine WR.nil ?_
       change WC _ _ _ _ _ _
       refine WC.region ?_
       refine vb (q_add_r (r := ((i11 + 1 : Nat) : Int)) rfl rfl rfl (ctr_len hl16 (hb.cut_from (c := cb) (lo := at_.toNat) (inle_le hk8) hbc).le)) (mv (v := .int .i64 ((i11 + 1 : Nat) : Int)) ?_)
       refine WR.nil ?_
       intro w hw
       exact ⟨hl16, (ior .u64 n_9 (ishl .u64 (wu64 (iand .u8 (((gt (List.drop at_.toNat b) i11).toNat : Nat) : Int) 127)) (w64 (7 * ((i11 : Nat) : Int))))), h, (sl_ (by kernel_rfl)), hw, trivial⟩
   ·
    have h := hge14 (ige hb15)
    refine WC.exit ?_
    intro w hw
    exact ⟨4, h, (sl_ (by kernel_rfl)), hw, (show I64 4 by decide), trivial⟩
  ·
   rintro σ w ⟨e_6, h, hsl, hw, hr7, -⟩
   refine Wpt.slots hsl ?_
   refine WC.here (C := CC F Γ []) ?_ hw
   clear hw hsl
   refine WC.rs (mv (v := .int .i64 e_6) (as_ (v := .int .i64 0) (as_ (v := .int .i64 0) (as_ (v := .int .i64 e_6) ?_))))
   refine WR.done ?_
   refine WC.ret ?_
   intro w hw
   obtain rfl := Option.some.inj h
   subst hF
   exact ⟨by kernel_rfl, hw.fr⟩
theorem t_frame_Sum {Γ : Gh} {w0 : World} {Aparts : Option Addr} {cparts : Nat} {parts : List (List UInt8)} (hparts : Sl (slT byteT) Γ Aparts parts) (hpartsc : parts.length ≤ cparts) (hs : Sat Γ w0) {r : Int} (h : m_frame_Sum parts = some r) : Calls Tryz.prog 172 #[.slice Aparts parts.length cparts] w0 (fun e w' => e = .returned (.int .u32 r) ∧ Fr no w0 w') := by
 refine calls_of (N := 38) (rs := [2]) (args := [.slice Aparts parts.length cparts]) Tryz.func172 rfl Tryz.ntmps172 Tryz.results172 rfl ?_
 obtain ⟨F, hF⟩ : ∃ F : Fm, F = ⟨no, w0, Γ⟩ := ⟨_, rfl⟩
 refine WC.here (C := CC F Γ []) ?_ (hF ▸ Cur.start0 hs)
 refine WC.rs (as_ (v := .int .u32 0) ?_)
 refine WR.done ?_
 refine WC.rs (as_ (v := .int .u32 4294967295) ?_)
 refine WR.done ?_
 refine WC.seq (WC.rs (mv (v := .slice Aparts parts.length cparts) (vb (q_len_slice rfl Tryz.underlying103 rfl) (mv (v := .int .i64 0) ?_))))
 refine WR.done ?_
 refine WC.block ?_
 refine WC.forI h (fun (i3 : Nat) (r_1 : Int) σ w => slots σ [(3, .int .u32 r_1), (8, .slice Aparts parts.length cparts), (9, .int .i64 ((parts.length : Nat) : Int)), (10, .int .i64 ((i3 : Nat) : Int))] ∧ CC F Γ [] w ∧ True) ?_ ?_
 ·
  intro w hw
  exact ⟨(sl_ (by kernel_rfl)), hw, trivial⟩
 rintro f2 i3 r_1 σ w hi4 hlt5 hge6 ⟨hsl, hw, -⟩
 refine Wpt.slots hsl ?_
 refine WC.here (C := CC F Γ []) ?_ hw
 clear hw hsl
 refine WC.rs (vb (q_lss rfl rfl rfl) ?_)
 refine WR.done ?_
 refine WC.seq ?_
 refine WC.cond (b := (decide (((i3 : Nat) : Int) < ((parts.length : Nat) : Int)))) (by kernel_rfl) (fun hb7 => ?_) (fun hb7 => ?_)
 ·
  have hl8 := ilt hb7
  have h := hlt5 hl8
  refine WC.skip ?_
  change WC _ _ _ _ _ _
  refine WC.seq (WC.block (WC.rs (vb (q_ixn (i := i3) Tryz.underlying103 Tryz.sizeOf77 rfl rfl rfl hl8 (hparts.some_ hl8)) ?_)))
  obtain ⟨A9, c10, hx11⟩ := hparts.slT_at i3
  refine vb (q_ld (c := 0) (v := .slice A9 (gt parts i3).length c10) (hx11 hl8).2 rfl Tryz.isAgg77 rfl rfl) (as_ (v := .slice A9 (gt parts i3).length c10) ?_)
  refine WR.done ?_
  refine WC.rs (mv (v := .slice A9 (gt parts i3).length c10) (vb (q_len_slice rfl Tryz.underlying77 rfl) (mv (v := .int .i64 0) ?_)))
  refine WR.done ?_
  refine WC.block ?_
  refine WC.forI h (fun (i14 : Nat) (r_12 : Int) σ w => slots σ [(3, .int .u32 r_12), (8, .slice Aparts parts.length cparts), (9, .int .i64 ((parts.length : Nat) : Int)), (10, .int .i64 ((i3 : Nat) : Int)), (14, .slice A9 (gt parts i3).length c10), (15, .int .i64 (((gt parts i3).length : Nat) : Int)), (16, .int .i64 ((i14 : Nat) : Int))] ∧ CC F Γ [] w ∧ True) ?_ ?_
  ·
   intro w hw
   exact ⟨(sl_ (by kernel_rfl)), hw, trivial⟩
  rintro f13 i14 r_12 σ w hi15 hlt16 hge17 ⟨hsl, hw, -⟩
  refine Wpt.slots hsl ?_
  refine WC.here (C := CC F Γ []) ?_ hw
  clear hw hsl
  refine WC.rs (vb (q_lss rfl rfl rfl) ?_)
  refine WR.done ?_
  refine WC.seq ?_
  refine WC.cond (b := (decide (((i14 : Nat) : Int) < (((gt parts i3).length : Nat) : Int)))) (by kernel_rfl) (fun hb18 => ?_) (fun hb18 => ?_)
  ·
   have hl19 := ilt hb18
   have h := hlt16 hl19
   refine WC.skip ?_
   change WC _ _ _ _ _ _
   refine WC.seq (WC.block (WC.rs (vb (q_ixn (i := i14) Tryz.underlying77 Tryz.sizeOf5 rfl rfl rfl hl19 ((hx11 hl8).1.2.some_ hl19)) (vb (q_ld (c := 0) (v := .int .u8 (((gt (gt parts i3) i14).toNat : Nat) : Int)) ((hx11 hl8).1.2.byteT_at hl19).2 rfl Tryz.isAgg5 rfl rfl) (as_ (v := .int .u8 (((gt (gt parts i3) i14).toNat : Nat) : Int)) ?_)))))
   refine WR.done ?_
   refine WC.rs (mv (v := .int .u32 r_12) (mv (v := .int .u8 (((gt (gt parts i3) i14).toNat : Nat) : Int)) (vb (q_conv Tryz.underlying242 Tryz.underlying5 rfl rfl) (vb (q_xor rfl rfl rfl) (as_ (v := .int .u32 (ixor .u32 r_12 (wu32 (((gt (gt parts i3) i14).toNat : Nat) : Int)))) ?_)))))
   refine WR.done ?_
   refine WC.rs (mv (v := .int .i64 0) ?_)
   refine WR.done ?_
   refine WC.block ?_
   refine WC.forU h (fun (i22 : Nat) (r_20 : Int) σ w => slots σ [(3, .int .u32 r_20), (8, .slice Aparts parts.length cparts), (9, .int .i64 ((parts.length : Nat) : Int)), (10, .int .i64 ((i3 : Nat) : Int)), (14, .slice A9 (gt parts i3).length c10), (15, .int .i64 (((gt parts i3).length : Nat) : Int)), (16, .int .i64 ((i14 : Nat) : Int)), (24, .int .i64 ((i22 : Nat) : Int))] ∧ CC F Γ [] w ∧ True) ?_ ?_
   ·
    intro w hw
    exact ⟨(sl_ (by kernel_rfl)), hw, trivial⟩
   rintro f21 i22 r_20 σ w hi23 hlt24 hge25 ⟨hsl, hw, -⟩
   refine Wpt.slots hsl ?_
   refine WC.here (C := CC F Γ []) ?_ hw
   clear hw hsl
   refine WC.rs (vb (q_lss rfl rfl rfl) ?_)
   refine WR.done ?_
   refine WC.seq ?_
   refine WC.cond (b := (decide (((i22 : Nat) : Int) < 8))) (by kernel_rfl) (fun hb26 => ?_) (fun hb26 => ?_)
   ·
    have hl27 := ilt hb26
    have h := hlt24 hl27
    refine WC.skip ?_
    change WC _ _ _ _ _ _
    refine WC.seq (WC.block ?_)
    refine WC.region ?_
    refine mv (v := .int .u32 r_20) (vb (q_shr rfl rfl rfl (by decide)) (mv (v := .int .u32 r_20) (vb (q_and rfl rfl rfl) (vb (q_neg rfl rfl) (vb (q_and rfl rfl rfl) (vb (q_xor rfl rfl rfl) (as_ (v := .int .u32 (ixor .u32 (ishr .u32 r_20 1) (iand .u32 3988292384 (wu32 (0 - (iand .u32 r_20 1)))))) ?_)))))))
    refine WR.nil ?_
    change WC _ _ _ _ _ _
    refine WC.region ?_
    refine vb (q_add_r (r := ((i22 + 1 : Nat) : Int)) rfl rfl rfl (ctr_lit hl27 (by decide))) (mv (v := .int .i64 ((i22 + 1 : Nat) : Int)) ?_)
    refine WR.nil ?_
    intro w hw
    exact ⟨hl27, (ixor .u32 (ishr .u32 r_20 1) (iand .u32 3988292384 (wu32 (0 - (iand .u32 r_20 1))))), h, (sl_ (by kernel_rfl)), hw, trivial⟩
   ·
    have h := hge25 (ige hb26)
    refine WC.exit ?_
    change WC _ _ _ _ _ _
    refine WC.region ?_
    refine vb (q_add_r (r := ((i14 + 1 : Nat) : Int)) rfl rfl rfl (ctr_len hl19 (hx11 hl8).1.2.le)) (mv (v := .int .i64 ((i14 + 1 : Nat) : Int)) ?_)
    refine WR.nil ?_
    intro w hw
    exact ⟨hl19, r_20, h, (sl_ (by kernel_rfl)), hw, trivial⟩
  ·
   have h := hge17 (ige hb18)
   refine WC.exit ?_
   change WC _ _ _ _ _ _
   refine WC.region ?_
   refine vb (q_add_r (r := ((i3 + 1 : Nat) : Int)) rfl rfl rfl (ctr_len hl8 hparts.le)) (mv (v := .int .i64 ((i3 + 1 : Nat) : Int)) ?_)
   refine WR.nil ?_
   intro w hw
   exact ⟨hl8, r_12, h, (sl_ (by kernel_rfl)), hw, trivial⟩
 ·
  have h := hge6 (ige hb7)
  refine WC.exit ?_
  change WC _ _ _ _ _ _
  refine WC.rs (mv (v := .int .u32 r_1) (vb (q_com rfl rfl) (as_ (v := .int .u32 (icom .u32 r_1)) ?_)))
  refine WR.done ?_
  refine WC.ret ?_
  intro w hw
  obtain rfl := Option.some.inj h
  subst hF
  exact ⟨by kernel_rfl, hw.fr⟩
abbrev r_frame_Next (r : (List UInt8) × Int × Int) (U : List Rowb) (Γ : Gh) (v : Value) : Prop := ∃ (A0 : Option Addr), ∃ (c0 : Nat), ∃ (row0 : Rowb), v = .tuple #[.slice A0 r.1.length c0, .int .i64 r.2.1, .int .i64 r.2.2] ∧ U = [row0] ∧ Own byteT Γ 5 row0 A0 c0 r.1 ∧ I64 r.2.1 ∧ I64 r.2.2 ∧ True
theorem t_frame_Next {Γ : Gh} {w0 : World} {Ab : Option Addr} {cb : Nat} {b : List UInt8} (hb : Sl byteT Γ Ab b) (hbc : b.length ≤ cb) (at_ : Int) (hat_ : I64 at_) (hp : Pre [] Γ w0) {r : (List UInt8) × Int × Int} (h : m_frame_Next b at_ = some r) : Calls Tryz.prog 191 #[.slice Ab b.length cb, .int .i64 at_] w0 (Outc Γ [] w0 (r_frame_Next r)) := by
 refine calls_of (N := 70) (rs := [4, 5, 6]) (args := [.slice Ab b.length cb, .int .i64 at_]) Tryz.func191 rfl Tryz.ntmps191 Tryz.results191 rfl ?_
 obtain ⟨F, hF⟩ : ∃ F : Fm, F = ⟨ids [], w0, Γ⟩ := ⟨_, rfl⟩
 refine WC.here (C := CC F Γ []) ?_ (hF ▸ hp.start)
 refine WC.rs (as_ (v := .slice none 0 0) (as_ (v := .int .i64 0) (as_ (v := .int .i64 0) ?_)))
 refine WR.done ?_
 refine WC.rs (mv (v := .slice Ab b.length cb) (mv (v := .int .i64 at_) ?_))
 obtain ⟨z1, hz2, h⟩ := bnd h
 refine vc rfl rfl rfl (q_call (call_run Tryz.call120 rfl rfl (by kernel_rfl)) (fun w hw => t_num_Num (Γ := Gh.all w) (hb.mono hw.sat.le_all) hbc at_ hat_ (Sat.all w) hz2)) (mv (v := .tuple #[.int .i64 z1.1, .int .i64 z1.2.1, .int .i64 z1.2.2]) (vb (q_extract (v := .int .i64 z1.1) rfl rfl rfl) (vb (q_extract (v := .int .i64 z1.2.1) rfl rfl rfl) (vb (q_extract (v := .int .i64 z1.2.2) rfl rfl rfl) (as_ (v := .int .i64 z1.1) (as_ (v := .int .i64 z1.2.1) (as_ (v := .int .i64 z1.2.2) ?_)))))))
 refine WR.done ?_
 refine WC.seq (WC.rs (mv (v := .int .i64 z1.2.2) (vb (q_neq rfl rfl rfl) ?_)))
 refine WR.done ?_
 refine WC.cif h (by kernel_rfl) (fun hb3 h => ?_) (fun hb3 h => ?_)
 ·
  refine WC.rs (mv (v := .int .i64 z1.2.2) (as_ (v := .slice none 0 0) (as_ (v := .int .i64 0) (as_ (v := .int .i64 z1.2.2) ?_))))
  refine WR.done ?_
  refine WC.ret ?_
  intro w hw
  have hw := hw.pad
  obtain ⟨hk4, h⟩ := chk_some h
  obtain rfl := Option.some.inj h
  subst hF
  exact end_e (is := [0]) (by kernel_rfl) hw rfl ⟨none, 0, [], rfl, rfl, (Own.nil byteT _ 5), (show I64 0 by decide), (i64b_of hk4), trivial⟩
 ·
  refine WC.skip ?_
  change WC _ _ _ _ _ _
  refine WC.seq (WC.rs (mv (v := .int .i64 z1.1) (vb (q_gtr rfl rfl rfl) ?_)))
  refine WR.done ?_
  refine WC.cif h (by kernel_rfl) (fun hb5 h => ?_) (fun hb5 h => ?_)
  ·
   refine WC.rs (as_ (v := .slice none 0 0) (as_ (v := .int .i64 0) (as_ (v := .int .i64 3) ?_)))
   refine WR.done ?_
   refine WC.ret ?_
   intro w hw
   have hw := hw.pad
   obtain rfl := Option.some.inj h
   subst hF
   exact end_e (is := [0]) (by kernel_rfl) hw rfl ⟨none, 0, [], rfl, rfl, (Own.nil byteT _ 5), (show I64 0 by decide), (show I64 3 by decide), trivial⟩
  ·
   refine WC.skip ?_
   change WC _ _ _ _ _ _
   refine WC.seq (WC.rs (mv (v := .slice Ab b.length cb) (vb (q_len_slice rfl Tryz.underlying77 rfl) (mv (v := .int .i64 z1.2.1) (vb (q_sub rfl rfl rfl) (mv (v := .int .i64 z1.1) (vb (q_add rfl rfl rfl) ?_)))))))
   refine vb (q_lss rfl rfl rfl) ?_
   refine WR.done ?_
   refine WC.cif h (by kernel_rfl) (fun hb6 h => ?_) (fun hb6 h => ?_)
   ·
    refine WC.rs (as_ (v := .slice none 0 0) (as_ (v := .int .i64 0) (as_ (v := .int .i64 4) ?_)))
    refine WR.done ?_
    refine WC.ret ?_
    intro w hw
    have hw := hw.pad
    obtain rfl := Option.some.inj h
    subst hF
    exact end_e (is := [0]) (by kernel_rfl) hw rfl ⟨none, 0, [], rfl, rfl, (Own.nil byteT _ 5), (show I64 0 by decide), (show I64 4 by decide), trivial⟩
   ·
    refine WC.skip ?_
    change WC _ _ _ _ _ _
    refine WC.rs (mv (v := .slice Ab b.length cb) (mv (v := .int .i64 z1.2.1) (vb (q_add rfl rfl rfl) (mv (v := .int .i64 z1.2.1) (vb (q_add rfl rfl rfl) (mv (v := .int .i64 z1.1) (vb (q_add rfl rfl rfl) ?_)))))))
    obtain ⟨hk7, h⟩ := chk_some h
    obtain ⟨hk8, h⟩ := chk_some h
    obtain ⟨hk9, h⟩ := chk_some h
    refine vb (q_cut (c := cb) (lo := (w64 (z1.2.1 + 4)).toNat) (hi := (w64 ((w64 (z1.2.1 + 4)) + z1.1)).toNat) (xs := b) Tryz.underlying77 Tryz.sizeOf5 rfl rfl (nn_eq rfl hk8) (inle_eq rfl hk7) (of_decide_eq_true hk9) (inle_le hk7) hbc) (as_ (v := .slice (if cb = (w64 (z1.2.1 + 4)).toNat then Ab else Option.map (fun a => a.add (((w64 (z1.2.1 + 4)).toNat) * 1)) Ab) (List.drop ((w64 (z1.2.1 + 4)).toNat) (List.take ((w64 ((w64 (z1.2.1 + 4)) + z1.1)).toNat) b)).length (cb - (w64 (z1.2.1 + 4)).toNat)) ?_)
    refine WR.done ?_
    refine WC.rs (mv (v := .slice Ab b.length cb) (mv (v := .int .i64 at_) (mv (v := .int .i64 z1.2.1) ?_)))
    obtain ⟨hk10, h⟩ := chk_some h
    obtain ⟨hk11, h⟩ := chk_some h
    obtain ⟨hk12, h⟩ := chk_some h
    refine vb (q_cut (c := cb) (lo := at_.toNat) (hi := z1.2.1.toNat) (xs := b) Tryz.underlying77 Tryz.sizeOf5 rfl rfl (nn_eq rfl hk11) (inle_eq rfl hk10) (of_decide_eq_true hk12) (inle_le hk10) hbc) (mv (v := .slice (if cb = (w64 (z1.2.1 + 4)).toNat then Ab else Option.map (fun a => a.add (((w64 (z1.2.1 + 4)).toNat) * 1)) Ab) (List.drop ((w64 (z1.2.1 + 4)).toNat) (List.take ((w64 ((w64 (z1.2.1 + 4)) + z1.1)).toNat) b)).length (cb - (w64 (z1.2.1 + 4)).toNat)) ?_)
    refine e_buildSlice (cs := #[.slice (if cb = at_.toNat then Ab else Option.map (fun a => a.add (at_.toNat * 1)) Ab) (List.drop at_.toNat (List.take z1.2.1.toNat b)).length (cb - at_.toNat), .slice (if cb = (w64 (z1.2.1 + 4)).toNat then Ab else Option.map (fun a => a.add (((w64 (z1.2.1 + 4)).toNat) * 1)) Ab) (List.drop ((w64 (z1.2.1 + 4)).toNat) (List.take ((w64 ((w64 (z1.2.1 + 4)) + z1.1)).toNat) b)).length (cb - (w64 (z1.2.1 + 4)).toNat)]) (e := 77) rfl rfl rfl rfl (fun w => by kernel_rfl) ?_
    intro g13
    have ho14 : Own (slT byteT) Γ 77 [(g13, .cells #[.slice (if cb = at_.toNat then Ab else Option.map (fun a => a.add (at_.toNat * 1)) Ab) (List.drop at_.toNat (List.take z1.2.1.toNat b)).length (cb - at_.toNat), .slice (if cb = (w64 (z1.2.1 + 4)).toNat then Ab else Option.map (fun a => a.add (((w64 (z1.2.1 + 4)).toNat) * 1)) Ab) (List.drop ((w64 (z1.2.1 + 4)).toNat) (List.take ((w64 ((w64 (z1.2.1 + 4)) + z1.1)).toNat) b)).length (cb - (w64 (z1.2.1 + 4)).toNat)] 77 (0, 0))] (some ⟨g13, 0, none⟩) 2 [(List.drop at_.toNat (List.take z1.2.1.toNat b)), (List.drop ((w64 (z1.2.1 + 4)).toNat) (List.take ((w64 ((w64 (z1.2.1 + 4)) + z1.1)).toNat) b))] := Own.of_blockL (T := (slT byteT)) (ys := [(List.drop at_.toNat (List.take z1.2.1.toNat b)), (List.drop ((w64 (z1.2.1 + 4)).toNat) (List.take ((w64 ((w64 (z1.2.1 + 4)) + z1.1)).toNat) b))]) [[.slice (if cb = at_.toNat then Ab else Option.map (fun a => a.add (at_.toNat * 1)) Ab) (List.drop at_.toNat (List.take z1.2.1.toNat b)).length (cb - at_.toNat)], [.slice (if cb = (w64 (z1.2.1 + 4)).toNat then Ab else Option.map (fun a => a.add (((w64 (z1.2.1 + 4)).toNat) * 1)) Ab) (List.drop ((w64 (z1.2.1 + 4)).toNat) (List.take ((w64 ((w64 (z1.2.1 + 4)) + z1.1)).toNat) b)).length (cb - (w64 (z1.2.1 + 4)).toNat)]] rfl (show 2 ≤ lim by decide) (show Ty.rd (slT byteT) Γ [.slice (if cb = at_.toNat then Ab else Option.map (fun a => a.add (at_.toNat * 1)) Ab) (List.drop at_.toNat (List.take z1.2.1.toNat b)).length (cb - at_.toNat)] (List.drop at_.toNat (List.take z1.2.1.toNat b)) ∧ Ty.rd (slT byteT) Γ [.slice (if cb = (w64 (z1.2.1 + 4)).toNat then Ab else Option.map (fun a => a.add (((w64 (z1.2.1 + 4)).toNat) * 1)) Ab) (List.drop ((w64 (z1.2.1 + 4)).toNat) (List.take ((w64 ((w64 (z1.2.1 + 4)) + z1.1)).toNat) b)).length (cb - (w64 (z1.2.1 + 4)).toNat)] (List.drop ((w64 (z1.2.1 + 4)).toNat) (List.take ((w64 ((w64 (z1.2.1 + 4)) + z1.1)).toNat) b)) ∧ True from ⟨⟨(if cb = at_.toNat then Ab else Option.map (fun a => a.add (at_.toNat * 1)) Ab), (cb - at_.toNat), rfl, (cut2_cap hbc at_.toNat z1.2.1.toNat), (hb.cut (cap := cb) (lo := at_.toNat) (hi := z1.2.1.toNat) (of_decide_eq_true hk12) (inle_le hk10) hbc)⟩, ⟨(if cb = (w64 (z1.2.1 + 4)).toNat then Ab else Option.map (fun a => a.add (((w64 (z1.2.1 + 4)).toNat) * 1)) Ab), (cb - (w64 (z1.2.1 + 4)).toNat), rfl, (cut2_cap hbc ((w64 (z1.2.1 + 4)).toNat) ((w64 ((w64 (z1.2.1 + 4)) + z1.1)).toNat)), (hb.cut (cap := cb) (lo := (w64 (z1.2.1 + 4)).toNat) (hi := (w64 ((w64 (z1.2.1 + 4)) + z1.1)).toNat) (of_decide_eq_true hk9) (inle_le hk7) hbc)⟩, trivial⟩)
    obtain ⟨z15, hz16, h⟩ := bnd h
    refine vc rfl rfl rfl (q_call (call_run Tryz.call172 rfl rfl (by kernel_rfl)) (fun w hw => t_frame_Sum (Γ := Gh.all w) (ho14.sl hw.sat.le_all (hw.ra 0 rfl)) ho14.capz (Sat.all w) hz16)) (as_ (v := .int .u32 z15) ?_)
    refine WR.done ?_
    refine WC.seq (WC.rs (mv (v := .int .i64 0) ?_))
    refine WR.done ?_
    refine WC.block ?_
    refine WC.forU h (fun (i18 : Nat) (s : Unit) σ w => match s with | () => slots σ [(0, .slice Ab b.length cb), (7, .int .i64 z1.1), (8, .int .i64 z1.2.1), (10, .slice (if cb = (w64 (z1.2.1 + 4)).toNat then Ab else Option.map (fun a => a.add (((w64 (z1.2.1 + 4)).toNat) * 1)) Ab) (List.drop ((w64 (z1.2.1 + 4)).toNat) (List.take ((w64 ((w64 (z1.2.1 + 4)) + z1.1)).toNat) b)).length (cb - (w64 (z1.2.1 + 4)).toNat)), (11, .int .u32 z15), (47, .int .i64 ((i18 : Nat) : Int))] ∧ CC F Γ [] w ∧ True) ?_ ?_
    ·
     intro w hw
     exact ⟨(sl_ (by kernel_rfl)), (hw.only (is := []) rfl), trivial⟩
    rintro f17 i18 ⟨⟩ σ w hi19 hlt20 hge21 ⟨hsl, hw, -⟩
    refine Wpt.slots hsl ?_
    refine WC.here (C := CC F Γ []) ?_ hw
    clear hw hsl
    refine WC.rs (vb (q_lss rfl rfl rfl) ?_)
    refine WR.done ?_
    refine WC.seq ?_
    refine WC.cond (b := (decide (((i18 : Nat) : Int) < 4))) (by kernel_rfl) (fun hb22 => ?_) (fun hb22 => ?_)
    ·
     have hl23 := ilt hb22
     have h := hlt20 hl23
     refine WC.skip ?_
     change WC _ _ _ _ _ _
     refine WC.seq (WC.block (WC.rs (mv (v := .int .i64 ((i18 : Nat) : Int)) (as_ (v := .int .i64 ((i18 : Nat) : Int)) ?_))))
     refine WR.done ?_
     refine WC.seq ?_
     refine WC.dr (by kernel_rfl) (by kernel_rfl) (fun w hw => hw.drawn _) ?_
     refine wa rfl rfl rfl (q_move (v := .slice Ab b.length cb) rfl (by kernel_rfl)) (wa rfl rfl rfl (q_move (v := .int .i64 z1.2.1) rfl (by kernel_rfl)) (wa rfl rfl rfl (q_move (v := .int .i64 ((i18 : Nat) : Int)) rfl (by kernel_rfl)) (wa rfl rfl rfl (q_add rfl rfl rfl) ?_)))
     obtain ⟨hk24, h⟩ := chk_some h
     refine wa rfl rfl rfl (q_ix Tryz.underlying77 Tryz.sizeOf5 rfl rfl rfl hk24 (hb.some_ (inb_lt hk24))) (wa rfl rfl rfl (q_ld (c := 0) (v := .int .u8 (((gt b ((w64 (z1.2.1 + ((i18 : Nat) : Int))).toNat)).toNat : Nat) : Int)) (hb.byteT_at (inb_lt hk24)).2 rfl Tryz.isAgg5 rfl rfl) (wa rfl rfl rfl (q_move (v := .int .u32 z15) rfl (by kernel_rfl)) (wa rfl rfl rfl (q_move (v := .int .i64 ((i18 : Nat) : Int)) rfl (by kernel_rfl)) (wa rfl rfl rfl (q_mul rfl rfl rfl) ?_))))
     obtain ⟨hk25, h⟩ := chk_some h
     refine wa rfl rfl rfl (q_shr rfl rfl rfl hk25) (wa rfl rfl rfl (q_conv Tryz.underlying5 Tryz.underlying242 rfl rfl) (wa rfl rfl rfl (q_neq rfl rfl rfl) ?_))
     refine WQ.nil ?_
     change WC _ _ _ _ _ _
     refine WC.cif h (by kernel_rfl) (fun hb26 h => ?_) (fun hb26 h => ?_)
     ·
      refine WC.rs (as_ (v := .slice none 0 0) (as_ (v := .int .i64 0) (as_ (v := .int .i64 20) ?_)))
      refine WR.done ?_
      refine WC.ret ?_
      intro w hw
      have hw := hw.pad
      obtain rfl := Option.some.inj h
      subst hF
      exact end_e (is := [0]) (by kernel_rfl) hw rfl ⟨none, 0, [], rfl, rfl, (Own.nil byteT _ 5), (show I64 0 by decide), (show I64 20 by decide), trivial⟩
     ·
      refine WC.skip ?_
      change WC _ _ _ _ _ _
      refine WC.region ?_
      refine vb (q_add_r (r := ((i18 + 1 : Nat) : Int)) rfl rfl rfl (ctr_lit hl23 (by decide))) (mv (v := .int .i64 ((i18 + 1 : Nat) : Int)) ?_)
      refine WR.nil ?_
      intro w hw
      exact ⟨hl23, (), h, (sl_ (by kernel_rfl)), hw, trivial⟩
    ·
     have h := hge21 (ige hb22)
     refine WC.exit ?_
     change WC _ _ _ _ _ _
     refine WC.rs ?_
     refine e_buildSlice (cs := #[]) (e := 5) rfl rfl rfl rfl (fun w => by kernel_rfl) ?_
     intro g27
     refine mv (v := .slice (if cb = (w64 (z1.2.1 + 4)).toNat then Ab else Option.map (fun a => a.add (((w64 (z1.2.1 + 4)).toNat) * 1)) Ab) (List.drop ((w64 (z1.2.1 + 4)).toNat) (List.take ((w64 ((w64 (z1.2.1 + 4)) + z1.1)).toNat) b)).length (cb - (w64 (z1.2.1 + 4)).toNat)) ?_
     have ho28 : Own byteT Γ 5 [(g27, .cells #[] 5 (0, 0))] (some ⟨g27, 0, none⟩) 0 ([] : List UInt8) := Own.of_blockL (T := byteT) (ys := ([] : List UInt8)) [] rfl (show 0 ≤ lim by decide) (show True from trivial)
     obtain ⟨hk29, h⟩ := chk_some h
     refine e_append (T := byteT) (xs := ([] : List UInt8)) (ys := (List.drop ((w64 (z1.2.1 + 4)).toNat) (List.take ((w64 ((w64 (z1.2.1 + 4)) + z1.1)).toNat) b))) elem_77 (i := 0) rfl rfl rfl rfl rfl rfl rfl ho28 (of_decide_eq_true hk29) (fun w hw => src_sl (hb.cut (cap := cb) (lo := (w64 (z1.2.1 + 4)).toNat) (hi := (w64 ((w64 (z1.2.1 + 4)) + z1.1)).toNat) (of_decide_eq_true hk9) (inle_le hk7) hbc) hw) ?_
     intro row30 A31 c32 ho33
     refine mv (v := .int .i64 z1.2.1) (vb (q_add rfl rfl rfl) (mv (v := .int .i64 z1.1) (vb (q_add rfl rfl rfl) (as_ (v := .slice A31 (([] : List UInt8) ++ (List.drop ((w64 (z1.2.1 + 4)).toNat) (List.take ((w64 ((w64 (z1.2.1 + 4)) + z1.1)).toNat) b))).length c32) (as_ (v := .int .i64 (w64 ((w64 (z1.2.1 + 4)) + z1.1))) (as_ (v := .int .i64 0) ?_))))))
     refine WR.done ?_
     refine WC.ret ?_
     intro w hw
     obtain rfl := Option.some.inj h
     subst hF
     exact end_e (is := [0]) (by kernel_rfl) hw rfl ⟨A31, c32, row30, rfl, rfl, ho33, (w64_r _), (show I64 0 by decide), trivial⟩
abbrev r_frame_frames_1 (J : Gh → Rowb → YSframe_frames_1 → Prop) (lY : Nat) (gb0 : Nat) (Ab0v : Option Addr) (cb0v : Nat) (b0v : List UInt8) (gb1 : Nat) (gb1v : Nat) (b1v : Int) (r : YSframe_frames_1 × Int) (U : List Rowb) (Γ : Gh) (v : Value) : Prop := ∃ (rowsY' : Rowb), v = .tuple #[] ∧ U = [rowsY', [(gb0, .cells #[.slice Ab0v b0v.length cb0v] 77 (0, 0))], [(gb1, .cells #[.pointer (some ⟨gb1v, 0, none⟩)] 226 (0, 0))], [(gb1v, .cells #[.int .i64 r.2] 28 (0, 0))]] ∧ YSframe_frames_1.ob J Γ lY rowsY' r.1 ∧ I64 r.2 ∧ True
theorem t_frame_frames_1 {Γ : Gh} {w0 : World} {J : Gh → Rowb → YSframe_frames_1 → Prop} {Y : YSframe_frames_1 → List UInt8 → Int → Option YSframe_frames_1} {lY : Nat} (hY : ∀ {Γ : Gh} {w : World} {row : Rowb} {s s' : YSframe_frames_1} {Ay0_ : Option Addr} {cy0_ : Nat} {y0_ : List UInt8} (hy0_ : Sl byteT Γ Ay0_ y0_) (hy0_c : y0_.length ≤ cy0_) (y1_ : Int) (hy1_ : I64 y1_) (hs : YSframe_frames_1.ob J Γ lY row s) (hp : Pre [row] Γ w) (h : Y s y0_ y1_ = some s'), YieldAt (FR none) 0 Tryz.prog lY #[.slice Ay0_ y0_.length cy0_, .int .i64 y1_] w (Outc Γ [row] w fun U Δ v => ∃ row' : Rowb, v = .bool true ∧ U = [row'] ∧ YSframe_frames_1.ob J Δ lY row' s')) {rowsY : Rowb} {sY : YSframe_frames_1} (hsY : YSframe_frames_1.ob J Γ lY rowsY sY) {gb0 : Nat} {Ab0v : Option Addr} {cb0v : Nat} {b0v : List UInt8} (hb0v : Sl byteT Γ Ab0v b0v) (hb0vc : b0v.length ≤ cb0v) {gb1 : Nat} {gb1v : Nat} (b1v : Int) (hb1v : I64 b1v) (hp : Pre [rowsY, [(gb0, .cells #[.slice Ab0v b0v.length cb0v] 77 (0, 0))], [(gb1, .cells #[(pq gb1v)] 226 (0, 0))], [(gb1v, .cells #[.int .i64 b1v] 28 (0, 0))]] Γ w0) {r : YSframe_frames_1 × Int} (h : m_frame_frames_1 Y sY b0v b1v = some r) : Calls Tryz.prog 190 #[.func (.yield lY) #[] #[], (pq gb0), (pq gb1)] w0 (Outc Γ [rowsY, [(gb0, .cells #[.slice Ab0v b0v.length cb0v] 77 (0, 0))], [(gb1, .cells #[(pq gb1v)] 226 (0, 0))], [(gb1v, .cells #[.int .i64 b1v] 28 (0, 0))]] w0 (r_frame_frames_1 J lY gb0 Ab0v cb0v b0v gb1 gb1v b1v r)) := by
 refine calls_of (N := 32) (rs := []) (args := [.func (.yield lY) #[] #[], (pq gb0), (pq gb1)]) Tryz.func190 rfl Tryz.ntmps190 Tryz.results190 rfl ?_
 obtain ⟨F, hF⟩ : ∃ F : Fm, F = ⟨ids [rowsY, [(gb0, .cells #[.slice Ab0v b0v.length cb0v] 77 (0, 0))], [(gb1, .cells #[(pq gb1v)] 226 (0, 0))], [(gb1v, .cells #[.int .i64 b1v] 28 (0, 0))]], w0, Γ⟩ := ⟨_, rfl⟩
 refine WC.here (C := CC F Γ [rowsY, [(gb0, .cells #[.slice Ab0v b0v.length cb0v] 77 (0, 0))], [(gb1, .cells #[(pq gb1v)] 226 (0, 0))], [(gb1v, .cells #[.int .i64 b1v] 28 (0, 0))]]) ?_ (hF ▸ hp.start)
 refine WC.rs (as_ (v := .int .i64 0) ?_)
 refine WR.done ?_
 refine WC.block ?_
 refine WC.loopN h (fun (s : Int × Int × YSframe_frames_1) σ w => match s with | (at_3, x5, o7) => ∃ (Γ1 : Gh), ∃ (row8 : Rowb), slots σ [(0, .func (.yield lY) #[] #[]), (1, (pq gb0)), (2, (pq gb1)), (4, .int .i64 at_3)] ∧ CC F Γ1 [row8, [(gb0, .cells #[.slice Ab0v b0v.length cb0v] 77 (0, 0))], [(gb1, .cells #[(pq gb1v)] 226 (0, 0))], [(gb1v, .cells #[.int .i64 x5] 28 (0, 0))]] w ∧ Gh.le Γ Γ1 ∧ I64 at_3 ∧ I64 x5 ∧ YSframe_frames_1.ob J Γ1 lY row8 o7 ∧ True) ?_ ?_
 ·
  intro w hw
  exact ⟨Γ, rowsY, (sl_ (by kernel_rfl)), hw, (Gh.refl _), (show I64 0 by decide), hb1v, hsY, trivial⟩
 rintro f10 ⟨at_3, x5, o7⟩ σ w h ⟨Γ1, row8, hsl, hw, hl2, hr4, hr6, ho9, -⟩
 refine Wpt.slots hsl ?_
 refine WC.here (C := CC F Γ1 [row8, [(gb0, .cells #[.slice Ab0v b0v.length cb0v] 77 (0, 0))], [(gb1, .cells #[(pq gb1v)] 226 (0, 0))], [(gb1v, .cells #[.int .i64 x5] 28 (0, 0))]]) ?_ hw
 clear hw hsl
 refine WC.seq (WC.rs (mv (v := .int .i64 at_3) (vb (q_ldl (i := 1) (v := .slice Ab0v b0v.length cb0v) rfl rfl Tryz.isAgg77 rfl rfl) (vb (q_len_slice rfl Tryz.underlying77 rfl) (vb (q_lss rfl rfl rfl) ?_)))))
 refine WR.done ?_
 refine WC.cif h (by kernel_rfl) (fun hb14 h => ?_) (fun hb14 h => ?_)
 ·
  refine WC.skip ?_
  change WC _ _ _ _ _ _
  refine WC.block (WC.rs (vb (q_ldl (i := 1) (v := .slice Ab0v b0v.length cb0v) rfl rfl Tryz.isAgg77 rfl rfl) (mv (v := .int .i64 at_3) ?_)))
  obtain ⟨z15, hz16, h⟩ := bnd h
  refine e_call (is := []) rfl rfl (call_run Tryz.call191 rfl rfl (by kernel_rfl)) rfl (fun w hp => t_frame_Next (hb0v.mono hl2) hb0vc at_3 hr4 hp hz16) ?_
  rintro Γ17 U19 v20 hl18 ⟨A21, c22, row23, rfl, rfl, hr24, hr25, hr26, _⟩
  change WR _ _ _ (CC F Γ17 [row23, row8, [(gb0, .cells #[.slice Ab0v b0v.length cb0v] 77 (0, 0))], [(gb1, .cells #[(pq gb1v)] 226 (0, 0))], [(gb1v, .cells #[.int .i64 x5] 28 (0, 0))]]) _ _ (upd _ 15 (.tuple #[.slice A21 z15.1.length c22, .int .i64 z15.2.1, .int .i64 z15.2.2]))
  refine mv (v := .tuple #[.slice A21 z15.1.length c22, .int .i64 z15.2.1, .int .i64 z15.2.2]) (vb (q_extract (v := .slice A21 z15.1.length c22) rfl rfl rfl) (vb (q_extract (v := .int .i64 z15.2.1) rfl rfl rfl) (vb (q_extract (v := .int .i64 z15.2.2) rfl rfl rfl) (as_ (v := .slice A21 z15.1.length c22) (as_ (v := .int .i64 z15.2.1) (as_ (v := .int .i64 z15.2.2) ?_))))))
  refine WR.done ?_
  refine WC.rs (vb (q_ldl (i := 3) (v := (pq gb1v)) rfl rfl Tryz.isAgg226 rfl rfl) (mv (v := .int .i64 z15.2.2) (vb (q_nil (A := some ⟨gb1v, 0, none⟩) rfl rfl rfl) ?_)))
  refine e_st (i := 4) (v := .int .i64 z15.2.2) (new := #[.int .i64 z15.2.2]) rfl Tryz.sizeOf28 rfl rfl rfl rfl (by kernel_rfl) rfl rfl rfl rfl ?_
  refine WR.done ?_
  refine WC.seq (WC.seq ?_)
  refine WC.ofI (WCI.region ?_)
  refine WI.op (fun _ h => nomatch h) ?_
  refine mv (v := .int .i64 z15.2.2) ?_
  refine WI.nx ?_
  refine WI.op (fun _ h => nomatch h) ?_
  refine vb (q_neq rfl rfl rfl) ?_
  refine WI.nx ?_
  refine WI.op (fun _ h => nomatch h) ?_
  refine mv (v := .bool (z15.2.2 != 0)) ?_
  refine WI.nx ?_
  refine WI.op (fun _ h => nomatch h) ?_
  refine vg0 rfl rfl rfl rfl rfl (fun hg27 => QV.qo (q_move (v := .func (.yield lY) #[] #[]) rfl (by kernel_rfl))) ?_
  refine WI.nx ?_
  refine WI.op (fun _ h => nomatch h) ?_
  refine vg0 rfl rfl rfl rfl rfl (fun hg28 => QV.qo (q_move (v := .slice A21 z15.1.length c22) rfl (by kernel_rfl))) ?_
  refine WI.nx ?_
  refine WI.op (fun _ h => nomatch h) ?_
  refine vg0 rfl rfl rfl rfl rfl (fun hg29 => QV.qo (q_move (v := .int .i64 z15.2.1) rfl (by kernel_rfl))) ?_
  refine WI.nx ?_
  refine (Bool.eq_false_or_eq_true (!(z15.2.2 != 0))).elim (fun hb30 => ?_) (fun hb30 => ?_)
  ·
   have h := bt hb30 h
   refine WI.sat (c0 := true) (g := (z15.2.2 != 0)) rfl rfl rfl hb30 ?_
   have hc35 := hr24.capz
   intro w hw; obtain ⟨Γ31, hw, hl32, hr33⟩ := hw.seal (i := 0) rfl; have hs34 := hr24.sl hl32 hr33
   refine WI.here (C := CC F Γ31 [[], row8, [(gb0, .cells #[.slice Ab0v b0v.length cb0v] 77 (0, 0))], [(gb1, .cells #[(pq gb1v)] 226 (0, 0))], [(gb1v, .cells #[.int .i64 z15.2.2] 28 (0, 0))]]) ?_ hw
   clear hw
   obtain ⟨z36, hz37, h⟩ := bnd h
   refine WI.yield (is := [1]) rfl rfl (fun _ h => nomatch h) (yield_run rfl (gu hb30 rfl) (args2 (gu hb30 rfl) (gu hb30 rfl))) rfl (fun w hp => hY hs34 hc35 z15.2.1 hr25 (ho9.mono (hl18.trans hl32)) hp hz37) ?_
   rintro Γ38 U40 v41 hl39 ⟨row42, rfl, rfl, hr43⟩
   change WI _ _ _ _ (CC F Γ38 [row42, [], [(gb0, .cells #[.slice Ab0v b0v.length cb0v] 77 (0, 0))], [(gb1, .cells #[(pq gb1v)] 226 (0, 0))], [(gb1v, .cells #[.int .i64 z15.2.2] 28 (0, 0))]]) _ _ (upd _ 28 (.bool true))
   refine WI.sat (c0 := true) (g := (z15.2.2 != 0)) rfl rfl rfl hb30 ?_
   refine WI.op (fun _ h => nomatch h) ?_
   refine vb (q_not rfl rfl) ?_
   refine WI.nx ?_
   refine WI.op (fun _ h => nomatch h) ?_
   refine vb (q_pick_f (v := .bool (!true)) rfl rfl (not_t hb30) (by kernel_rfl)) ?_
   refine WI.nx ?_
   refine WI.nil ?_
   change WC _ _ _ _ _ _
   refine WC.cfk (b := (!true)) (by kernel_rfl) (nott rfl) ?_
   refine WC.skip ?_
   change WC _ _ _ _ _ _
   refine WC.region ?_
   refine mv (v := .int .i64 z15.2.1) (as_ (v := .int .i64 z15.2.1) ?_)
   refine WR.nil ?_
   intro w hw
   exact ⟨(z15.2.1, z15.2.2, z36), h, Γ38, row42, (sl_ (by kernel_rfl)), (hw.only (is := [0, 1, 1, 1]) rfl), (((hl2.trans hl18).trans hl32).trans hl39), hr25, hr26, hr43, trivial⟩
  ·
   have h := bf hb30 h
   refine WI.op (fun _ h => nomatch h) ?_
   refine WR.unsat (c0 := true) (g := (z15.2.2 != 0)) rfl rfl rfl hb30 rfl ?_
   refine WI.nx ?_
   refine WI.op (fun _ h => nomatch h) ?_
   refine WR.unsat (c0 := true) (g := (z15.2.2 != 0)) rfl rfl rfl hb30 rfl ?_
   refine WI.nx ?_
   refine WI.op (fun _ h => nomatch h) ?_
   refine vb (q_pick_t (v := .bool true) rfl rfl (not_f hb30) (by kernel_rfl)) ?_
   refine WI.nx ?_
   refine WI.nil ?_
   change WC _ _ _ _ _ _
   refine WC.ctk (b := true) (by kernel_rfl) rfl ?_
   refine WC.ret ?_
   intro w hw
   obtain rfl := Option.some.inj h
   subst hF
   exact end_e (is := [1, 1, 1, 1]) (by kernel_rfl) hw rfl ⟨row8, rfl, rfl, (ho9.mono hl18), hr26, trivial⟩
 ·
  refine WC.exit ?_
  intro w hw
  obtain rfl := Option.some.inj h
  subst hF
  exact end_e (is := [0, 0, 0, 0]) (by kernel_rfl) hw rfl ⟨row8, rfl, rfl, ho9, hr6, trivial⟩
def JAll (l gout gat : Nat) (rec : Loop) (Γ : Gh) (row : Rowb) (s : YSframe_frames_1) : Prop := ∃ (A : Option Addr) (c : Nat) (rowo : Rowb), row = ([[(l, .loop rec)], [(gout, .cells #[.slice A s.1.length c] 103 (0, 0))], [(gat, .cells #[.int .i64 s.2] 3 (0, 0))], rowo] : List Rowb).flatten ∧ Own (slT byteT) Γ 77 rowo A c s.1 ∧ I64 s.2
theorem t_frame_frames {Γ : Gh} {w0 : World} {A : Option Addr} {c : Nat} {b : List UInt8} (ge : Nat) (hp : Pre [] Γ w0) : Calls Tryz.prog 153 #[.slice A b.length c, (pq ge)] w0 (Outc Γ [] w0 (fun U Δ v => ∃ g1 g2 : Nat, v = .func (.func 190) #[] #[(pq g1), (pq g2)] ∧ U = [[(g1, .cells #[.slice A b.length c] 77 (0, 0))], [(g2, .cells #[(pq ge)] 226 (0, 0))]])) := by
 refine calls_of (N := 6) (rs := [4]) (args := [.slice A b.length c, (pq ge)]) Tryz.func153 rfl Tryz.ntmps153 Tryz.results153 rfl ?_
 obtain ⟨F, hF⟩ : ∃ F : Fm, F = ⟨ids [], w0, Γ⟩ := ⟨_, rfl⟩
 refine WC.here (C := CC F Γ []) ?_ (hF ▸ hp.start)
 refine WC.rs ?_
 refine e_box (v := .slice A b.length c) rfl rfl rfl rfl (by kernel_rfl) ?_
 intro g1
 refine e_box (v := (pq ge)) rfl rfl rfl rfl (by kernel_rfl) ?_
 intro g2
 refine as_ (v := .nilFunc) ?_
 refine WR.nil ?_
 change WC _ _ _ _ _ _
 refine WC.rs (vb (q_mkfn (v := .func (.func 190) #[] #[(pq g1), (pq g2)]) rfl (by kernel_rfl)) (as_ (v := .func (.func 190) #[] #[(pq g1), (pq g2)]) ?_))
 refine WR.nil ?_
 change WC _ _ _ _ _ _
 refine WC.ret ?_
 intro w hw
 subst hF
 exact end_e (is := [1, 0]) (by kernel_rfl) hw rfl ⟨g1, g2, rfl, rfl⟩
abbrev r_frame_All (r : List (List UInt8) × Int × Int) (U : List Rowb) (Γ : Gh) (v : Value) : Prop := ∃ (A0 : Option Addr), ∃ (c0 : Nat), ∃ (row0 : Rowb), v = .tuple #[.slice A0 r.1.length c0, .int .i64 r.2.1, .int .i64 r.2.2] ∧ U = [row0] ∧ Own (slT byteT) Γ 77 row0 A0 c0 r.1 ∧ I64 r.2.1 ∧ I64 r.2.2 ∧ True
set_option maxRecDepth 100000 in
set_option maxHeartbeats 800000 in
theorem t_frame_All {Γ : Gh} {w0 : World} {Ab : Option Addr} {cb : Nat} {b : List UInt8} (hb : Sl byteT Γ Ab b) (hbc : b.length ≤ cb) (hp : Pre [] Γ w0) {r : List (List UInt8) × Int × Int} (h : m_frame_All b = some r) : Calls Tryz.prog 119 #[.slice Ab b.length cb] w0 (Outc Γ [] w0 (r_frame_All r)) := by
 obtain ⟨z, hz, h⟩ := bnd h
 obtain rfl := Option.some.inj h
 refine calls_of2 (n := 22) (rs := [2, 3, 4]) (args := [.slice Ab b.length cb]) Tryz.func119 rfl Tryz.ntmps119 Tryz.results119 rfl ?_
 obtain ⟨F, hF⟩ : ∃ F : Fm, F = ⟨ids [], w0, Γ⟩ := ⟨_, rfl⟩
 refine WC2.here (C := CC F Γ []) ?_ (hF ▸ hp.start)
 refine WC2.seq ?_
 refine WC.region ?_
 refine as_ (v := .slice none 0 0) (as_ (v := .int .i64 0) (as_ (v := .int .i64 0) ?_))
 refine WR.nil ?_
 change WC2 _ _ _ _ _ _
 refine WC2.seq ?_
 refine WC.region ?_
 refine e_alloc Tryz.zeroValue103 rfl rfl rfl rfl ?_
 intro gout
 refine WR.nil ?_
 change WC2 _ _ _ _ _ _
 refine WC2.seq ?_
 refine WC.region ?_
 refine e_alloc Tryz.zeroValue28 rfl rfl rfl rfl ?_
 intro ge
 refine WR.nil ?_
 change WC2 _ _ _ _ _ _
 refine WC2.seq ?_
 refine WC.region ?_
 refine e_alloc Tryz.zeroValue3 rfl rfl rfl rfl ?_
 intro gat
 refine e_st (i := 0) (v := .int .i64 0) (new := #[.int .i64 0]) rfl Tryz.sizeOf3 rfl rfl rfl rfl (by kernel_rfl) rfl rfl rfl rfl ?_
 refine WR.nil ?_
 change WC2 _ _ _ _ _ _
 refine WC2.seq3 ?_
 refine WC.region ?_
 refine mv (v := .slice Ab b.length cb) ?_
 refine e_call (is := []) rfl rfl (call_run Tryz.call153 rfl rfl (by kernel_rfl)) rfl (fun w hp => t_frame_frames (A := Ab) (c := cb) (b := b) ge hp) ?_
 rintro Γ1 U1 v1 hl1 ⟨g1, g2, rfl, rfl⟩
 change WR _ _ _ (CC F Γ1 [[(g1, .cells #[.slice Ab b.length cb] 77 (0, 0))], [(g2, .cells #[(pq ge)] 226 (0, 0))], [(gat, .cells #[.int .i64 0] 3 (0, 0))], [(ge, .cells #[.int .i64 0] 28 (0, 0))], [(gout, .cells #[.slice none 0 0] 103 (0, 0))]]) _ _ (upd _ 11 (.func (.func 190) #[] #[(pq g1), (pq g2)]))
 refine WR.nil ?_
 change WC3 _ _ _ _ _ _ _
 refine WC3.rangeF (n := 22) (gf := 190) (lb := #[(pq g1), (pq g2)]) (by kernel_rfl) Tryz.call190 ?_
 intro l D rec w hst hpe hps has hbo hagr hw
 have hY : ∀ {Γ : Gh} {w : World} {row : Rowb} {s s' : YSframe_frames_1} {Ay0_ : Option Addr} {cy0_ : Nat} {y0_ : List UInt8} (hy0_ : Sl byteT Γ Ay0_ y0_) (hy0_c : y0_.length ≤ cy0_) (y1_ : Int) (hy1_ : I64 y1_) (hs : YSframe_frames_1.ob (JAll l gout gat rec) Γ l row s) (hp : Pre [row] Γ w) (h : m_frame_All_y s y0_ y1_ = some s'),
   YieldAt (FR none) 0 Tryz.prog l #[.slice Ay0_ y0_.length cy0_, .int .i64 y1_] w (Outc Γ [row] w fun U Δ v => ∃ row' : Rowb, v = .bool true ∧ U = [row'] ∧ YSframe_frames_1.ob (JAll l gout gat rec) Δ l row' s') := by
  intro Γ w row s s' A c y0 h0 h0c y1 h1 hs hp h
  obtain ⟨hk, h⟩ := chk_some h
  obtain rfl := Option.some.inj h
  obtain ⟨Γ', hle, Ao, co, rowo, rfl, ho, hi⟩ := hs
  have ho := ho.mono hle
  refine YieldAt.mono (R := Outc Γ [[(l, .loop rec)], [(gout, .cells #[.slice Ao s.1.length co] 103 (0, 0))], [(gat, .cells #[.int .i64 s.2] 3 (0, 0))], rowo] w fun U Δ v => ∃ A2 c2 row2, v = .bool true ∧ U = [[(l, .loop rec)], [(gout, .cells #[.slice A2 (s.1 ++ [y0]).length c2] 103 (0, 0))], [(gat, .cells #[.int .i64 y1] 3 (0, 0))], row2] ∧ Own (slT byteT) Δ 77 row2 A2 c2 (s.1 ++ [y0])) ?_ ?_
  ·
   refine yield_of has hbo hp.parts hst hpe (by rw [hps]; rfl) (N := ⟨22, []⟩) (σ1 := _) (by rw [hps]; exact hagr.par2 rfl rfl) ?_
   intro F hF
   refine WCI.rs ?_
   refine WI.op (fun _ h => nomatch h) ?_
   refine as_ (v := .slice A y0.length c) ?_
   refine WI.nx ?_
   refine WI.done ?_
   refine WCI.region ?_
   refine WI.op (fun _ h => nomatch h) ?_
   refine as_ (v := .int .i64 y1) ?_
   refine WI.nx ?_
   refine WI.nil ?_
   intro w hw
   refine ⟨Γ, _, hw, ?_⟩
   refine WCI.block ?_
   refine WCI.rs ?_
   refine WI.op (fun _ h => nomatch h) ?_
   refine vb (q_ldl (i := 1) (v := .slice Ao s.1.length co) rfl rfl Tryz.isAgg103 rfl rfl) ?_
   refine WI.nx ?_
   refine WI.op (fun _ h => nomatch h) ?_
   refine mv (v := .slice A y0.length c) ?_
   refine WI.nx ?_
   refine WI.op (fun _ h => nomatch h) ?_
   refine e_buildSlice (cs := #[.slice A y0.length c]) (e := 77) rfl rfl rfl rfl (fun w => by kernel_rfl) ?_
   intro gb
   refine WI.nx ?_
   refine WI.op (fun _ h => nomatch h) ?_
   refine e_append (T := slT byteT) (xs := s.1) (ys := [y0]) elem_103 (i := 4) rfl rfl rfl rfl rfl rfl rfl ho (of_decide_eq_true hk) (fun w hw => src_one (T := slT byteT) (y := y0) (i := 0) rfl (by exact ⟨A, c, rfl, h0c, h0⟩) hw) ?_
   intro row2 A2 c2 ho2
   refine WI.nx ?_
   refine WI.op (fun _ h => nomatch h) ?_
   refine e_st (i := 2) (v := .slice A2 (s.1 ++ [y0]).length c2) (new := #[.slice A2 (s.1 ++ [y0]).length c2]) rfl Tryz.sizeOf103 rfl rfl rfl rfl (by kernel_rfl) rfl rfl rfl rfl ?_
   refine WI.nx ?_
   refine WI.done ?_
   refine WCI.region ?_
   refine WI.op (fun _ h => nomatch h) ?_
   refine mv (v := .int .i64 y1) ?_
   refine WI.nx ?_
   refine WI.op (fun _ h => nomatch h) ?_
   refine e_st (i := 3) (v := .int .i64 y1) (new := #[.int .i64 y1]) rfl Tryz.sizeOf3 rfl rfl rfl rfl (by kernel_rfl) rfl rfl rfl rfl ?_
   refine WI.nx ?_
   refine WI.nil ?_
   intro w hw
   exact ⟨Γ, _, hw.only (is := [1, 1, 1, 1]) rfl, A2, c2, row2, rfl, rfl, ho2⟩
  ·
   rintro e w2 ⟨v, rfl, Δ, U, he, A2, c2, row2, rfl, rfl, ho2⟩
   exact ⟨_, rfl, Δ, _, he.glue, _, rfl, rfl, YS.of ⟨A2, c2, row2, rfl, ho2, h1⟩⟩
 have hw := hw.pad
 have h2 := hw.fold (is := [1, 6, 4, 0]) rfl rfl
 have h3 : Cur F Γ1 ([([[(l, .loop rec)], [(gout, .cells #[.slice none 0 0] 103 (0, 0))], [(gat, .cells #[.int .i64 0] 3 (0, 0))], []] : List Rowb).flatten, [(g1, .cells #[.slice Ab b.length cb] 77 (0, 0))], [(g2, .cells #[(pq ge)] 226 (0, 0))], [(ge, .cells #[.int .i64 0] 28 (0, 0))]] ++ [[(D, .deferred (some []))]]) w := h2.pick (is := [0, 1, 1, 1]) rfl
 refine (t_frame_frames_1 (J := JAll l gout gat rec) (Y := m_frame_All_y) (lY := l) (sY := ([], 0)) hY (YS.of ⟨none, 0, [], rfl, Own.nil _ _ _, show I64 0 by decide⟩) (hb.mono hl1) hbc 0 (show I64 0 by decide) (h2.only (is := [0, 1, 1, 1]) rfl).pre hz).mono ?_
 rintro e w' ⟨v, rfl, Δ, U', he, rowY', rfl, rfl, hJ', he2, -⟩
 have h4 := h3.eff he
 obtain ⟨Γ', hle, A', c', rowo', hrow, ho', hi'⟩ := hJ'
 have h5 := h4.unfold (i := 0) rfl hrow
 refine ⟨_, rfl, Δ, [[(gout, .cells #[.slice A' z.1.1.length c'] 103 (0, 0))], [(gat, .cells #[.int .i64 z.1.2] 3 (0, 0))], rowo', [(ge, .cells #[.int .i64 z.2] 28 (0, 0))]], h5.only (is := [0, 6, 0, 0, 0, 2]) rfl, ?_⟩
 refine WC2.of ?_
 refine WC.seq ?_
 refine WC.dr (by kernel_rfl) (by kernel_rfl) (fun w hw => hw.drawn _) ?_
 refine wa rfl rfl rfl (q_ldl (i := 1) (v := .slice A' z.1.1.length c') rfl rfl Tryz.isAgg103 rfl rfl) (wa rfl rfl rfl (q_ldl (i := 2) (v := .int .i64 z.1.2) rfl rfl Tryz.isAgg3 rfl rfl) (wa rfl rfl rfl (q_ldl (i := 4) (v := .int .i64 z.2) rfl rfl Tryz.isAgg28 rfl rfl) (wa rfl rfl rfl (q_assign (v := .slice A' z.1.1.length c') rfl (by kernel_rfl)) (wa rfl rfl rfl (q_assign (v := .int .i64 z.1.2) rfl (by kernel_rfl)) (wa rfl rfl rfl (q_assign (v := .int .i64 z.2) rfl (by kernel_rfl)) ?_)))))
 refine WQ.nil ?_
 change WC _ _ _ _ _ _
 refine WC.ret ?_
 intro w hw
 subst hF
 exact end_2 (N := ⟨22, []⟩) (is := [2]) (by kernel_rfl) hw rfl ⟨A', c', rowo', rfl, rfl, ho'.mono hle, hi', he2, trivial⟩
abbrev r_seglog_place_holds (edk0 : Nat) (gp__0 : Nat) (rowdk0 : Rowb) (r : Int × Int × Int) (U : List Rowb) (Γ : Gh) (v : Value) : Prop := v = .tuple #[.int .i64 r.1, .int .i64 r.2.1, .int .i64 r.2.2] ∧ U = [rowdk0] ∧ I64 r.1 ∧ I64 r.2.1 ∧ I64 r.2.2 ∧ True
theorem t_seglog_place_holds {Γ : Gh} {w0 : World} {gp__0 : Nat} (p__1 : ByteArray) (hp__1 : p__1.size ≤ lim) (p__2 : Int) (hp__2 : I64 p__2) {edk0 : Nat} {rowdk0 : Rowb} {dk0 : Odisk_Disk} (hdk0 : Odisk_Disk.ob edk0 Γ gp__0 rowdk0 dk0) (hp : Pre [rowdk0] Γ w0) {r : Int × Int × Int} (h : m_seglog_place_holds p__1 p__2 dk0 = some r) : Calls Tryz.prog 84 #[.agg #[(pq gp__0), .string p__1, .int .i64 p__2]] w0 (Outc Γ [rowdk0] w0 (r_seglog_place_holds edk0 gp__0 rowdk0 r)) := by
 refine calls_of (N := 62) (rs := [2, 3, 4]) (args := [.agg #[(pq gp__0), .string p__1, .int .i64 p__2]]) Tryz.func84 rfl Tryz.ntmps84 Tryz.results84 rfl ?_
 obtain ⟨F, hF⟩ : ∃ F : Fm, F = ⟨ids [rowdk0], w0, Γ⟩ := ⟨_, rfl⟩
 refine WC.here (C := CC F Γ [rowdk0]) ?_ (hF ▸ hp.start)
 refine WC.rs ?_
 refine e_box (v := .agg #[(pq gp__0), .string p__1, .int .i64 p__2]) rfl rfl rfl rfl (by kernel_rfl) ?_
 intro g1
 refine as_ (v := .int .i64 0) (as_ (v := .int .i64 0) (as_ (v := .int .i64 0) ?_))
 refine WR.done ?_
 refine WC.seq ?_
 intro w hw; have h02 := hw.le
 refine WC.here (C := CC F Γ [[(g1, .cells #[(pq gp__0), .string p__1, .int .i64 p__2] 141 (0, 0))], rowdk0]) ?_ hw; clear hw
 refine WC.held (CC F Γ [[(g1, .cells #[(pq gp__0), .string p__1, .int .i64 p__2] 141 (0, 0))]]) (by kernel_rfl) (fun w hw => hw.drawn _) ?_
 change WH _ _ _ _ (CC F Γ [[(g1, .cells #[(pq gp__0), .string p__1, .int .i64 p__2] 141 (0, 0))], rowdk0]) _ 10 #[false, false, false, false, false, false, false, false, false, false] _
 refine hu 0 rfl (bk_ (Gh.refl _) h02 (.cons_cons _ (.cons _ .slnil))) (q_fl 0 fld_141_0 rfl rfl rfl) (hu 1 rfl (bk_ (Gh.refl _) h02 (.cons_cons _ (.cons _ .slnil))) (q_ldl (i := 0) (v := (pq gp__0)) rfl rfl Tryz.isAgg25 rfl rfl) (hu 2 rfl (bk_ (Gh.refl _) h02 (.cons_cons _ (.cons _ .slnil))) (q_ldla (i := 0) (vs := [(pq gp__0), .string p__1, .int .i64 p__2]) rfl rfl Tryz.isAgg141 Tryz.sizeOf141 rfl rfl) ?_))
 refine WH.lone (i := 3) (by kernel_rfl) rfl ?_
 obtain ⟨z3, hz4, h⟩ := bnd h
 refine vc rfl rfl rfl (q_call (call_run Tryz.call87 rfl rfl (by kernel_rfl)) (fun w hw => t_seglog_place_list (Γ := Gh.all w) (gp__0 := gp__0) p__1 hp__1 p__2 hp__2 (Sat.all w) hz4)) ?_
 refine WR.nil ?_
 refine WH.next (bk_ (Gh.refl _) h02 (.cons_cons _ (.cons _ .slnil))) ?_
 refine WH.lone (i := 4) (by kernel_rfl) rfl ?_
 obtain ⟨hk5, h⟩ := chk_some h
 obtain ⟨z6, hz7, h⟩ := bnd h
 refine e_call (is := [1]) rfl rfl (call_run Tryz.call39 rfl rfl (by kernel_rfl)) rfl (fun w hp => t_disk_Disk_Read hdk0 z3 (of_decide_eq_true hk5) hp hz7) ?_
 rintro Γ8 U10 v11 hl9 ⟨A12, c13, row14, rfl, rfl, hr15, _⟩
 change WR _ _ _ (CC F Γ8 [rowdk0, row14, [(g1, .cells #[(pq gp__0), .string p__1, .int .i64 p__2] 141 (0, 0))]]) _ _ (upd _ 21 (.tuple #[.slice A12 z6.1.length c13, .bool z6.2]))
 refine WR.nil ?_
 refine WH.next (bk_ hl9 h02 (.cons _ (.cons _ (.cons_cons _ .slnil)))) ?_
 refine hu 5 rfl (bk_ hl9 h02 (.cons _ (.cons _ (.cons_cons _ .slnil)))) (q_move (v := .tuple #[.slice A12 z6.1.length c13, .bool z6.2]) rfl (by kernel_rfl)) (hu 6 rfl (bk_ hl9 h02 (.cons _ (.cons _ (.cons_cons _ .slnil)))) (q_extract (v := .slice A12 z6.1.length c13) rfl rfl rfl) (hu 7 rfl (bk_ hl9 h02 (.cons _ (.cons _ (.cons_cons _ .slnil)))) (q_extract (v := .bool z6.2) rfl rfl rfl) (hu 8 rfl (bk_ hl9 h02 (.cons _ (.cons _ (.cons_cons _ .slnil)))) (q_assign (v := .slice A12 z6.1.length c13) rfl (by kernel_rfl)) (hu 9 rfl (bk_ hl9 h02 (.cons _ (.cons _ (.cons_cons _ .slnil)))) (q_assign (v := .bool z6.2) rfl (by kernel_rfl)) ?_))))
 refine WH.done (by kernel_rfl) ?_
 change WC _ _ _ _ _ _
 refine WC.rs (mv (v := .slice A12 z6.1.length c13) ?_)
 have hc20 := hr15.capz
 intro w hw; obtain ⟨Γ16, hw, hl17, hr18⟩ := hw.seal (i := 1) rfl; have hs19 := hr15.sl hl17 hr18
 refine WR.here (C := CC F Γ16 [rowdk0, [], [(g1, .cells #[(pq gp__0), .string p__1, .int .i64 p__2] 141 (0, 0))]]) ?_ hw
 clear hw
 obtain ⟨z21, hz22, h⟩ := bnd h
 refine e_call (is := []) rfl rfl (call_run Tryz.call119 rfl rfl (by kernel_rfl)) rfl (fun w hp => t_frame_All hs19 hc20 hp hz22) ?_
 rintro Γ23 U25 v26 hl24 ⟨A27, c28, row29, rfl, rfl, hr30, hr31, hr32, _⟩
 change WR _ _ _ (CC F Γ23 [row29, rowdk0, [], [(g1, .cells #[(pq gp__0), .string p__1, .int .i64 p__2] 141 (0, 0))]]) _ _ (upd _ 26 (.tuple #[.slice A27 z21.1.length c28, .int .i64 z21.2.1, .int .i64 z21.2.2]))
 refine mv (v := .tuple #[.slice A27 z21.1.length c28, .int .i64 z21.2.1, .int .i64 z21.2.2]) (vb (q_extract (v := .slice A27 z21.1.length c28) rfl rfl rfl) (vb (q_extract (v := .int .i64 z21.2.1) rfl rfl rfl) (vb (q_extract (v := .int .i64 z21.2.2) rfl rfl rfl) (as_ (v := .slice A27 z21.1.length c28) (as_ (v := .int .i64 z21.2.1) (as_ (v := .int .i64 z21.2.2) ?_))))))
 refine WR.done ?_
 refine WC.rs (as_ (v := .int .i64 0) ?_)
 refine WR.done ?_
 refine WC.seq (WC.rs (mv (v := .slice A27 z21.1.length c28) (vb (q_len_slice rfl Tryz.underlying103 rfl) (mv (v := .int .i64 0) ?_))))
 refine WR.done ?_
 refine WC.block ?_
 refine WC.forI h (fun (i35 : Nat) (gen_33 : Int) σ w => slots σ [(8, .int .i64 z21.2.1), (10, .int .i64 gen_33), (30, .slice A27 z21.1.length c28), (31, .int .i64 ((z21.1.length : Nat) : Int)), (32, .int .i64 ((i35 : Nat) : Int))] ∧ CC F Γ23 [row29, rowdk0] w ∧ True) ?_ ?_
 ·
  intro w hw
  exact ⟨(sl_ (by kernel_rfl)), (hw.only (is := [0, 0]) rfl), trivial⟩
 rintro f34 i35 gen_33 σ w hi36 hlt37 hge38 ⟨hsl, hw, -⟩
 refine Wpt.slots hsl ?_
 refine WC.here (C := CC F Γ23 [row29, rowdk0]) ?_ hw
 clear hw hsl
 refine WC.rs (vb (q_lss rfl rfl rfl) ?_)
 refine WR.done ?_
 refine WC.seq ?_
 refine WC.cond (b := (decide (((i35 : Nat) : Int) < ((z21.1.length : Nat) : Int)))) (by kernel_rfl) (fun hb39 => ?_) (fun hb39 => ?_)
 ·
  have hl40 := ilt hb39
  have h := hlt37 hl40
  refine WC.skip ?_
  change WC _ _ _ _ _ _
  refine WC.seq (WC.block (WC.rs (vb (q_ixn (i := i35) Tryz.underlying103 Tryz.sizeOf77 rfl rfl rfl hl40 (hr30.some_ hl40)) ?_)))
  obtain ⟨A41, c42, hx43⟩ := hr30.slT_at i35
  refine vb (q_ldo (c := 0) (v := .slice A41 (gt z21.1 i35).length c42) (i := 0) rfl (hx43 hl40).2 rfl Tryz.isAgg77 rfl rfl) (as_ (v := .slice A41 (gt z21.1 i35).length c42) ?_)
  refine WR.done ?_
  refine WC.rs (mv (v := .slice A41 (gt z21.1 i35).length c42) ?_)
  obtain ⟨z44, hz45, h⟩ := bnd h
  refine vc rfl rfl rfl (q_call (call_run Tryz.call120 rfl rfl (by kernel_rfl)) (fun w hw => t_num_Num (Γ := Gh.all w) ((hx43 hl40).1.2.mono hw.sat.le_all) (hx43 hl40).1.1 0 (show I64 0 by decide) (Sat.all w) hz45)) (mv (v := .tuple #[.int .i64 z44.1, .int .i64 z44.2.1, .int .i64 z44.2.2]) (vb (q_extract (v := .int .i64 z44.1) rfl rfl rfl) (vb (q_extract (v := .int .i64 z44.2.1) rfl rfl rfl) (vb (q_extract (v := .int .i64 z44.2.2) rfl rfl rfl) (as_ (v := .int .i64 z44.1) (as_ (v := .int .i64 z44.2.1) (as_ (v := .int .i64 z44.2.2) ?_)))))))
  refine WR.done ?_
  refine WC.seq (WC.rs (mv (v := .int .i64 z44.2.2) (vb (q_neq rfl rfl rfl) (mv (v := .bool (z44.2.2 != 0)) (vg0 rfl rfl rfl rfl rfl (fun hg46 => QV.qo (q_move (v := .int .i64 z44.2.1) rfl (by kernel_rfl))) (vg0 rfl rfl rfl rfl rfl (fun hg47 => QV.qo (q_move (v := .slice A41 (gt z21.1 i35).length c42) rfl (by kernel_rfl))) (vg0 rfl rfl rfl rfl rfl (fun hg48 => QV.qo (q_len_slice rfl Tryz.underlying77 (gu hg48 rfl))) ?_)))))))
  refine vg0 rfl rfl rfl rfl rfl (fun hg49 => QV.qo (q_neq rfl (gu hg49 rfl) (gu hg49 rfl))) (vb (q_pick rfl rfl (pk_or' (g := (z44.2.2 != 0)) (y := (z44.2.1 != (((gt z21.1 i35).length : Nat) : Int))))) (mv (v := .bool ((z44.2.2 != 0) || (z44.2.1 != (((gt z21.1 i35).length : Nat) : Int)))) (vg0 rfl rfl rfl rfl rfl (fun hg50 => QV.qo (q_move (v := .int .i64 z44.1) rfl (by kernel_rfl))) (vg0 rfl rfl rfl rfl rfl (fun hg51 => QV.qo (q_lss rfl (gu hg51 rfl) rfl)) (vb (q_pick rfl rfl (pk_or' (g := ((z44.2.2 != 0) || (z44.2.1 != (((gt z21.1 i35).length : Nat) : Int)))) (y := (decide (z44.1 < 1))))) (mv (v := .bool (((z44.2.2 != 0) || (z44.2.1 != (((gt z21.1 i35).length : Nat) : Int))) || (decide (z44.1 < 1)))) (vg0 rfl rfl rfl rfl rfl (fun hg52 => QV.qo (q_move (v := .int .i64 z44.1) rfl (by kernel_rfl))) ?_)))))))
  refine vg0 rfl rfl rfl rfl rfl (fun hg53 => QV.qo (q_gtr rfl (gu hg53 rfl) rfl)) (vb (q_pick rfl rfl (pk_or' (g := (((z44.2.2 != 0) || (z44.2.1 != (((gt z21.1 i35).length : Nat) : Int))) || (decide (z44.1 < 1)))) (y := (decide (999999 < z44.1))))) ?_)
  refine WR.done ?_
  refine WC.cif h (by kernel_rfl) (fun hb54 h => ?_) (fun hb54 h => ?_)
  ·
   refine WC.rs (as_ (v := .int .i64 0) (as_ (v := .int .i64 0) (as_ (v := .int .i64 2) ?_)))
   refine WR.done ?_
   refine WC.ret ?_
   intro w hw
   obtain rfl := Option.some.inj h
   subst hF
   exact end_e (is := [1]) (by kernel_rfl) hw rfl ⟨rfl, rfl, (show I64 0 by decide), (show I64 0 by decide), (show I64 2 by decide), trivial⟩
  ·
   refine WC.skip ?_
   change WC _ _ _ _ _ _
   refine WC.region ?_
   refine mv (v := .int .i64 z44.1) (as_ (v := .int .i64 z44.1) ?_)
   refine WR.nil ?_
   change WC _ _ _ _ _ _
   refine WC.region ?_
   refine vb (q_add_r (r := ((i35 + 1 : Nat) : Int)) rfl rfl rfl (ctr_len hl40 hr30.le)) (mv (v := .int .i64 ((i35 + 1 : Nat) : Int)) ?_)
   refine WR.nil ?_
   intro w hw
   exact ⟨hl40, z44.1, h, (sl_ (by kernel_rfl)), hw, trivial⟩
 ·
  have h := hge38 (ige hb39)
  refine WC.exit ?_
  change WC _ _ _ _ _ _
  refine WC.rs (mv (v := .int .i64 gen_33) (mv (v := .int .i64 z21.2.1) (as_ (v := .int .i64 gen_33) (as_ (v := .int .i64 z21.2.1) (as_ (v := .int .i64 0) ?_)))))
  refine WR.done ?_
  refine WC.ret ?_
  intro w hw
  obtain ⟨hk55, h⟩ := chk_some h
  obtain rfl := Option.some.inj h
  subst hF
  exact end_e (is := [1]) (by kernel_rfl) hw rfl ⟨rfl, rfl, (i64b_of hk55), hr31, (show I64 0 by decide), trivial⟩
theorem t_disk_Disk_Loose {Γ : Gh} {w0 : World} {gd ed : Nat} {rowd : Rowb} {d : Odisk_Disk} (hd : Odisk_Disk.ob ed Γ gd rowd d) (hdr : ∀ p ∈ rowd, Γ p.1 = some p.2) (hs : Sat Γ w0) {r : Int} (h : m_disk_Disk_Loose d = some r) : Calls Tryz.prog 85 #[(pq gd)] w0 (fun e w' => e = .returned (.int .i64 r) ∧ Fr no w0 w') := by
 refine calls_of (N := 8) (rs := [2]) (args := [(pq gd)]) Tryz.func85 rfl Tryz.ntmps85 Tryz.results85 rfl ?_
 obtain ⟨F, hF⟩ : ∃ F : Fm, F = ⟨no, w0, Γ⟩ := ⟨_, rfl⟩
 refine WC.here (C := CC F Γ []) ?_ (hF ▸ Cur.start0 hs)
 refine WC.rs (as_ (v := .int .i64 0) ?_)
 refine WR.done ?_
 refine WC.rs (mv (v := (pq gd)) (vb (q_nil (A := some ⟨gd, 0, none⟩) rfl rfl rfl) (vb (q_fl 3 fld_67_3 rfl rfl rfl) ?_)))
 have hq := hd
 obtain ⟨m1_1, r1_1, m2_1, r2_1, A3_1, c3_1, r3_1, hrow_1, ho0_1, ho1_1, ho2_1, ho3_1, -⟩ := hq
 have hg_2 : ∀ u ∈ ([[(gd, .cells #[.int .i64 d.room, .map (some m1_1), .map (some m2_1), .slice A3_1 d.loose.length c3_1] ed (0, 0))], r1_1, r2_1, r3_1] : List Rowb), ∀ p ∈ u, Γ p.1 = some p.2 := fun u hu p hp => (fun p hp => (hdr p hp)) p (hrow_1 ▸ List.mem_flatten.2 ⟨u, hu, hp⟩)
 have hgc3 := hg_2 _ (List.mem_cons_self ..) (gd, _) (List.mem_singleton.2 rfl)
 have hgs4 := hg_2 r1_1 (by simp)
 have hgs5 := hg_2 r2_1 (by simp)
 have hgs6 := hg_2 r3_1 (by simp)
 have hs7 := ho3_1.sl (Gh.refl _) hgs6
 refine vb (q_ldg (v := .slice A3_1 d.loose.length c3_1) hgc3 rfl Tryz.isAgg65 rfl rfl) (vb (q_len_slice rfl Tryz.underlying65 rfl) (as_ (v := .int .i64 ((d.loose.length : Nat) : Int)) ?_))
 refine WR.done ?_
 refine WC.ret ?_
 intro w hw
 obtain rfl := Option.some.inj h
 subst hF
 exact ⟨by kernel_rfl, hw.fr⟩
theorem t_disk_right {Γ : Gh} {w0 : World} {Anames : Option Addr} {cnames : Nat} {names : List ByteArray} (hnames : Sl strT Γ Anames names) (hnamesc : names.length ≤ cnames) (hs : Sat Γ w0) {r : Bool} (h : m_disk_right names = some r) : Calls Tryz.prog 147 #[.slice Anames names.length cnames] w0 (fun e w' => e = .returned (.bool r) ∧ Fr no w0 w') := by
 refine calls_of (N := 20) (rs := [2]) (args := [.slice Anames names.length cnames]) Tryz.func147 rfl Tryz.ntmps147 Tryz.results147 rfl ?_
 obtain ⟨F, hF⟩ : ∃ F : Fm, F = ⟨no, w0, Γ⟩ := ⟨_, rfl⟩
 refine WC.here (C := CC F Γ []) ?_ (hF ▸ Cur.start0 hs)
 refine WC.rs (as_ (v := .bool false) ?_)
 refine WR.done ?_
 refine WC.seq (WC.rs (mv (v := .slice Anames names.length cnames) (vb (q_len_slice rfl Tryz.underlying133 rfl) (mv (v := .int .i64 0) ?_))))
 refine WR.done ?_
 refine WC.block ?_
 refine WC.forI h (fun (i2 : Nat) (s : Unit) σ w => match s with | () => slots σ [(5, .slice Anames names.length cnames), (6, .int .i64 ((names.length : Nat) : Int)), (7, .int .i64 ((i2 : Nat) : Int))] ∧ CC F Γ [] w ∧ True) ?_ ?_
 ·
  intro w hw
  exact ⟨(sl_ (by kernel_rfl)), hw, trivial⟩
 rintro f1 i2 ⟨⟩ σ w hi3 hlt4 hge5 ⟨hsl, hw, -⟩
 refine Wpt.slots hsl ?_
 refine WC.here (C := CC F Γ []) ?_ hw
 clear hw hsl
 refine WC.rs (vb (q_lss rfl rfl rfl) ?_)
 refine WR.done ?_
 refine WC.seq ?_
 refine WC.cond (b := (decide (((i2 : Nat) : Int) < ((names.length : Nat) : Int)))) (by kernel_rfl) (fun hb6 => ?_) (fun hb6 => ?_)
 ·
  have hl7 := ilt hb6
  have h := hlt4 hl7
  refine WC.skip ?_
  change WC _ _ _ _ _ _
  refine WC.seq (WC.block (WC.rs (vb (q_ixn (i := i2) Tryz.underlying133 Tryz.sizeOf9 rfl rfl rfl hl7 (hnames.some_ hl7)) (vb (q_ld (c := 0) (v := .string (gt names i2)) (hnames.strT_at hl7).2 rfl Tryz.isAgg9 rfl rfl) (as_ (v := .string (gt names i2)) ?_)))))
  refine WR.done ?_
  refine WC.rs (mv (v := .string (gt names i2)) (vb (q_len_str rfl Tryz.underlying9 rfl) (vb (q_lss rfl rfl rfl) (mv (v := .bool (decide ((((gt names i2).size : Nat) : Int) < 1))) (vg0 rfl rfl rfl rfl rfl (fun hg8 => QV.qo (q_move (v := .string (gt names i2)) rfl (by kernel_rfl))) (vg0 rfl rfl rfl rfl rfl (fun hg9 => QV.qo (q_len_str rfl Tryz.underlying9 (gu hg9 rfl))) (vg0 rfl rfl rfl rfl rfl (fun hg10 => QV.qo (q_gtr rfl (gu hg10 rfl) rfl)) ?_)))))))
  refine vb (q_pick rfl rfl (pk_or' (g := (decide ((((gt names i2).size : Nat) : Int) < 1))) (y := (decide (16 < (((gt names i2).size : Nat) : Int)))))) ?_
  refine WR.done ?_
  refine WC.cif h (by kernel_rfl) (fun hb11 h => ?_) (fun hb11 h => ?_)
  ·
   refine WC.rs (as_ (v := .bool false) ?_)
   refine WR.done ?_
   refine WC.ret ?_
   intro w hw
   obtain rfl := Option.some.inj h
   subst hF
   exact ⟨by kernel_rfl, hw.fr⟩
  ·
   refine WC.skip ?_
   change WC _ _ _ _ _ _
   refine WC.region ?_
   refine vb (q_add_r (r := ((i2 + 1 : Nat) : Int)) rfl rfl rfl (ctr_len hl7 hnames.le)) (mv (v := .int .i64 ((i2 + 1 : Nat) : Int)) ?_)
   refine WR.nil ?_
   intro w hw
   exact ⟨hl7, (), h, (sl_ (by kernel_rfl)), hw, trivial⟩
 ·
  have h := hge5 (ige hb6)
  refine WC.exit ?_
  change WC _ _ _ _ _ _
  refine WC.rs (as_ (v := .bool true) ?_)
  refine WR.done ?_
  refine WC.ret ?_
  intro w hw
  obtain rfl := Option.some.inj h
  subst hF
  exact ⟨by kernel_rfl, hw.fr⟩
theorem t_disk_Disk_there {Γ : Gh} {w0 : World} {gd ed : Nat} {rowd : Rowb} {d : Odisk_Disk} (hd : Odisk_Disk.ob ed Γ gd rowd d) (hdr : ∀ p ∈ rowd, Γ p.1 = some p.2) (name : ByteArray) (hname : name.size ≤ lim) (hs : Sat Γ w0) {r : Int} (h : m_disk_Disk_there d name = some r) : Calls Tryz.prog 154 #[(pq gd), .string name] w0 (fun e w' => e = .returned (.int .i64 r) ∧ Fr no w0 w') := by
 refine calls_of (N := 22) (rs := [4]) (args := [(pq gd), .string name]) Tryz.func154 rfl Tryz.ntmps154 Tryz.results154 rfl ?_
 obtain ⟨F, hF⟩ : ∃ F : Fm, F = ⟨no, w0, Γ⟩ := ⟨_, rfl⟩
 refine WC.here (C := CC F Γ []) ?_ (hF ▸ Cur.start0 hs)
 refine WC.rs (as_ (v := .int .i64 0) ?_)
 refine WR.done ?_
 refine WC.seq (WC.rs (mv (v := .string name) ?_))
 refine e_buildSlice (cs := #[.string name]) (e := 9) rfl rfl rfl rfl (fun w => by kernel_rfl) ?_
 intro g1
 have ho2 : Own strT Γ 9 [(g1, .cells #[.string name] 9 (0, 0))] (some ⟨g1, 0, none⟩) 1 [name] := Own.of_blockL (T := strT) (ys := [name]) [[.string name]] rfl (show 1 ≤ lim by decide) (show Ty.rd strT Γ [.string name] name ∧ True from ⟨⟨rfl, hname⟩, trivial⟩)
 obtain ⟨z3, hz4, h⟩ := bnd h
 refine vc rfl rfl rfl (q_call (call_run Tryz.call147 rfl rfl (by kernel_rfl)) (fun w hw => t_disk_right (Γ := Gh.all w) (ho2.sl hw.sat.le_all (hw.ra 0 rfl)) ho2.capz (Sat.all w) hz4)) (vb (q_not rfl rfl) ?_)
 refine WR.done ?_
 refine WC.cif h (by kernel_rfl) (fun hb5 h => ?_) (fun hb5 h => ?_)
 ·
  refine WC.rs (as_ (v := .int .i64 70) ?_)
  refine WR.done ?_
  refine WC.ret ?_
  intro w hw
  obtain rfl := Option.some.inj h
  subst hF
  exact ⟨by kernel_rfl, hw.fr⟩
 ·
  refine WC.skip ?_
  change WC _ _ _ _ _ _
  refine WC.seq (WC.rs (mv (v := (pq gd)) (vb (q_nil (A := some ⟨gd, 0, none⟩) rfl rfl rfl) (vb (q_fl 2 fld_67_2 rfl rfl rfl) ?_))))
  have hq := hd
  obtain ⟨m1_6, r1_6, m2_6, r2_6, A3_6, c3_6, r3_6, hrow_6, ho0_6, ho1_6, ho2_6, ho3_6, -⟩ := hq
  have hg_7 : ∀ u ∈ ([[(gd, .cells #[.int .i64 d.room, .map (some m1_6), .map (some m2_6), .slice A3_6 d.loose.length c3_6] ed (0, 0))], r1_6, r2_6, r3_6] : List Rowb), ∀ p ∈ u, Γ p.1 = some p.2 := fun u hu p hp => (fun p hp => (hdr p hp)) p (hrow_6 ▸ List.mem_flatten.2 ⟨u, hu, hp⟩)
  have hgc8 := hg_7 _ (List.mem_cons_self ..) (gd, _) (List.mem_singleton.2 rfl)
  have hgs9 := hg_7 r1_6 (by simp)
  have hgs10 := hg_7 r2_6 (by simp)
  have hgs11 := hg_7 r3_6 (by simp)
  have hs12 := ho3_6.sl (Gh.refl _) hgs11
  refine vb (q_ldg (v := .map (some m2_6)) hgc8 rfl Tryz.isAgg64 rfl rfl) (mv (v := .string name) ?_)
  obtain ⟨v13, ⟨A16, c17, hv14, hc18, hs19⟩, hat15⟩ := MapO.look ho2_6 name (z := .slice none 0 0) (zx := []) ⟨none, 0, rfl, Nat.zero_le _, Sl.nil _ _ _⟩
  obtain rfl : v13 = _ := List.cons.inj hv14 |>.1
  refine vb (q_lookup2g (v := .slice A16 ((mget name d.seen).getD []).length c17) (fun p hp => (hgs10 p hp)) hat15 rfl Tryz.underlying64 Tryz.zeroValue77 rfl rfl) (mv (v := .tuple #[.slice A16 ((mget name d.seen).getD []).length c17, .bool ((mget name d.seen).isSome)]) (vb (q_extract (v := .slice A16 ((mget name d.seen).getD []).length c17) rfl rfl rfl) (vb (q_extract (v := .bool ((mget name d.seen).isSome)) rfl rfl rfl) (as_ (v := .slice A16 ((mget name d.seen).getD []).length c17) (as_ (v := .bool ((mget name d.seen).isSome)) ?_)))))
  refine WR.done ?_
  refine WC.rs (mv (v := .bool ((mget name d.seen).isSome)) (vb (q_not rfl rfl) ?_))
  refine WR.done ?_
  refine WC.cif h (by kernel_rfl) (fun hb20 h => ?_) (fun hb20 h => ?_)
  ·
   refine WC.rs (as_ (v := .int .i64 71) ?_)
   refine WR.done ?_
   refine WC.ret ?_
   intro w hw
   obtain rfl := Option.some.inj h
   subst hF
   exact ⟨by kernel_rfl, hw.fr⟩
  ·
   refine WC.skip ?_
   change WC _ _ _ _ _ _
   refine WC.rs (as_ (v := .int .i64 0) ?_)
   refine WR.done ?_
   refine WC.ret ?_
   intro w hw
   obtain rfl := Option.some.inj h
   subst hF
   exact ⟨by kernel_rfl, hw.fr⟩
theorem t_slices_Clip_byte_byte {Γ : Gh} {w0 : World} {As_ : Option Addr} {cs_ : Nat} {s_ : List UInt8} (hs_ : Sl byteT Γ As_ s_) (hs_c : s_.length ≤ cs_) (hs : Sat Γ w0) {r : List UInt8} (h : m_slices_Clip_byte_byte s_ = some r) : Calls Tryz.prog 78 #[.slice As_ s_.length cs_] w0 (fun e w' => e = .returned (.slice As_ s_.length s_.length) ∧ Fr no w0 w') := by
 refine calls_of (N := 9) (rs := [2]) (args := [.slice As_ s_.length cs_]) Tryz.func78 rfl Tryz.ntmps78 Tryz.results78 rfl ?_
 obtain ⟨F, hF⟩ : ∃ F : Fm, F = ⟨no, w0, Γ⟩ := ⟨_, rfl⟩
 refine WC.here (C := CC F Γ []) ?_ (hF ▸ Cur.start0 hs)
 refine WC.rs (as_ (v := .slice none 0 0) ?_)
 refine WR.done ?_
 refine WC.rs (mv (v := .slice As_ s_.length cs_) (mv (v := .slice As_ s_.length cs_) (vb (q_len_slice rfl Tryz.underlying77 rfl) (mv (v := .slice As_ s_.length cs_) (vb (q_len_slice rfl Tryz.underlying77 rfl) (vb (q_clip (T := byteT) (xs := s_) Tryz.underlying77 Tryz.sizeOf5 rfl rfl rfl rfl hs_c) (as_ (v := .slice As_ s_.length s_.length) ?_)))))))
 refine WR.done ?_
 refine WC.ret ?_
 intro w hw
 obtain rfl := Option.some.inj h
 subst hF
 exact ⟨by kernel_rfl, hw.fr⟩
abbrev r_disk_add_1 (mf_ : Nat) (r : List (ByteArray × (List UInt8))) (U : List Rowb) (Γ : Gh) (v : Value) : Prop := ∃ (rowf_' : Rowb), v = .tuple #[] ∧ U = [rowf_'] ∧ MapO (strK Tryz.underlying9) (slT byteT).v Γ rowf_' mf_ r ∧ True
theorem t_disk_add_1 {Γ : Gh} {w0 : World} {mf_ : Nat} {rowf_ : Rowb} {f_ : List (ByteArray × (List UInt8))} (hf_ : MapO (strK Tryz.underlying9) (slT byteT).v Γ rowf_ mf_ f_) {gb0 : Nat} (b0 : ByteArray) (hb0_0 : Γ gb0 = some (.cells #[.string b0] 9 (0, 0))) (hb0_1 : b0.size ≤ lim) {gb1 : Nat} {Ab1_0 : Option Addr} {cb1_0 : Nat} (b1 : (List UInt8)) (hb1_0 : Γ gb1 = some (.cells #[.slice Ab1_0 b1.length cb1_0] 77 (0, 0))) (hb1_1 : b1.length ≤ cb1_0) (hb1_2 : Sl byteT Γ Ab1_0 b1) (hp : Pre [rowf_] Γ w0) {r : List (ByteArray × (List UInt8))} (h : m_disk_add_1 f_ b0 b1 = some r) : Calls Tryz.prog 77 #[.map (some mf_), (pq gb0), (pq gb1)] w0 (Outc Γ [rowf_] w0 (r_disk_add_1 mf_ r)) := by
 refine calls_of (N := 12) (rs := []) (args := [.map (some mf_), (pq gb0), (pq gb1)]) Tryz.func77 rfl Tryz.ntmps77 Tryz.results77 rfl ?_
 obtain ⟨F, hF⟩ : ∃ F : Fm, F = ⟨ids [rowf_], w0, Γ⟩ := ⟨_, rfl⟩
 refine WC.here (C := CC F Γ [rowf_]) ?_ (hF ▸ hp.start)
 intro w hw; have h01 := hw.le
 refine WC.here (C := CC F Γ [rowf_]) ?_ hw; clear hw
 refine WC.held (CC F Γ []) (by kernel_rfl) (fun w hw => hw.drawn _) ?_
 change WH _ _ _ _ (CC F Γ [rowf_]) _ 9 #[false, false, false, false, false, false, false, false, false] _
 refine hu 0 rfl (bk_ (Gh.refl _) h01 (.cons _ .slnil)) (q_move (v := .map (some mf_)) rfl (by kernel_rfl)) (hu 1 rfl (bk_ (Gh.refl _) h01 (.cons _ .slnil)) (q_ldg (v := .string b0) hb0_0 rfl Tryz.isAgg9 rfl rfl) (hu 2 rfl (bk_ (Gh.refl _) h01 (.cons _ .slnil)) (q_move (v := .map (some mf_)) rfl (by kernel_rfl)) (hu 3 rfl (bk_ (Gh.refl _) h01 (.cons _ .slnil)) (q_ldg (v := .string b0) hb0_0 rfl Tryz.isAgg9 rfl rfl) (hu 6 rfl (bk_ (Gh.refl _) h01 (.cons _ .slnil)) (q_ldg (v := .slice Ab1_0 b1.length cb1_0) hb1_0 rfl Tryz.isAgg77 rfl rfl) ?_))))
 refine WH.lone (i := 4) (by kernel_rfl) rfl ?_
 obtain ⟨v2, ⟨A5, c6, hv3, hc7, hs8⟩, hat4⟩ := MapO.look hf_ b0 (z := .slice none 0 0) (zx := []) ⟨none, 0, rfl, Nat.zero_le _, Sl.nil _ _ _⟩
 obtain rfl : v2 = _ := List.cons.inj hv3 |>.1
 refine vb (q_lookup1 (v := .slice A5 ((mget b0 f_).getD []).length c6) hat4 rfl Tryz.underlying64 Tryz.zeroValue77 rfl rfl (i := 0) rfl) ?_
 refine WR.nil ?_
 refine WH.next (bk_ (Gh.refl _) h01 (.cons _ .slnil)) ?_
 refine WH.lone (i := 5) (by kernel_rfl) rfl ?_
 obtain ⟨z9, hz10, h⟩ := bnd h
 refine vc rfl rfl rfl (q_call (call_run Tryz.call78 rfl rfl (by kernel_rfl)) (fun w hw => t_slices_Clip_byte_byte (Γ := Gh.all w) (hs8.mono hw.sat.le_all) hc7 (Sat.all w) hz10)) ?_
 refine WR.nil ?_
 refine WH.next (bk_ (Gh.refl _) h01 (.cons _ .slnil)) ?_
 refine WH.lone (i := 7) (by kernel_rfl) rfl ?_
 obtain ⟨hk11, h⟩ := chk_some h
 refine e_append_clip (T := byteT) (xs := ((mget b0 f_).getD [])) (ys := b1) elem_77 rfl rfl rfl rfl rfl rfl hs8 (of_decide_eq_true hk11) (fun w hw => src_sl hb1_2 hw) ?_
 intro Γ12 A13 c14 hl15 hs16 hc17
 refine WR.nil ?_
 refine WH.next (bk_ hl15 h01 (.cons _ (.cons _ .slnil))) ?_
 refine WH.lone (i := 8) (by kernel_rfl) rfl ?_
 refine e_mapUpdate (i := 1) (x := b0) (v := .slice A13 (((mget b0 f_).getD []) ++ b1).length c14) (a := (((mget b0 f_).getD []) ++ b1)) rfl rfl rfl Tryz.underlying64 rfl rfl (by kernel_rfl) rfl (hf_.mono hl15) (by exact ⟨A13, c14, rfl, hc17, hs16⟩) hb0_1 ?_
 intro row18 hm19
 refine WR.nil ?_
 refine WH.next (bk_ hl15 h01 (.cons _ (.cons _ .slnil))) ?_
 refine WH.done (by kernel_rfl) ?_
 intro w hw
 obtain rfl := Option.some.inj h
 subst hF
 exact end_e (is := [1]) (by kernel_rfl) hw rfl ⟨row18, rfl, rfl, hm19, trivial⟩
abbrev r_disk_Disk_Cut_1 (mf_ : Nat) (r : List (ByteArray × (List UInt8))) (U : List Rowb) (Γ : Gh) (v : Value) : Prop := ∃ (rowf_' : Rowb), v = .tuple #[] ∧ U = [rowf_'] ∧ MapO (strK Tryz.underlying9) (slT byteT).v Γ rowf_' mf_ r ∧ True
theorem t_disk_Disk_Cut_1 {Γ : Gh} {w0 : World} {mf_ : Nat} {rowf_ : Rowb} {f_ : List (ByteArray × (List UInt8))} (hf_ : MapO (strK Tryz.underlying9) (slT byteT).v Γ rowf_ mf_ f_) {gb0 : Nat} (b0 : ByteArray) (hb0_0 : Γ gb0 = some (.cells #[.string b0] 9 (0, 0))) (hb0_1 : b0.size ≤ lim) {gb1 : Nat} (b1 : Int) (hb1_0 : Γ gb1 = some (.cells #[.int .i64 b1] 3 (0, 0))) (hb1_1 : I64 b1) (hp : Pre [rowf_] Γ w0) {r : List (ByteArray × (List UInt8))} (h : m_disk_Disk_Cut_1 f_ b0 b1 = some r) : Calls Tryz.prog 155 #[.map (some mf_), (pq gb0), (pq gb1)] w0 (Outc Γ [rowf_] w0 (r_disk_Disk_Cut_1 mf_ r)) := by
 refine calls_of (N := 11) (rs := []) (args := [.map (some mf_), (pq gb0), (pq gb1)]) Tryz.func155 rfl Tryz.ntmps155 Tryz.results155 rfl ?_
 obtain ⟨F, hF⟩ : ∃ F : Fm, F = ⟨ids [rowf_], w0, Γ⟩ := ⟨_, rfl⟩
 refine WC.here (C := CC F Γ [rowf_]) ?_ (hF ▸ hp.start)
 intro w hw; have h01 := hw.le
 refine WC.here (C := CC F Γ [rowf_]) ?_ hw; clear hw
 refine WC.held (CC F Γ []) (by kernel_rfl) (fun w hw => hw.drawn _) ?_
 change WH _ _ _ _ (CC F Γ [rowf_]) _ 8 #[false, false, false, false, false, false, false, false] _
 refine hu 0 rfl (bk_ (Gh.refl _) h01 (.cons _ .slnil)) (q_move (v := .map (some mf_)) rfl (by kernel_rfl)) (hu 1 rfl (bk_ (Gh.refl _) h01 (.cons _ .slnil)) (q_ldg (v := .string b0) hb0_0 rfl Tryz.isAgg9 rfl rfl) (hu 2 rfl (bk_ (Gh.refl _) h01 (.cons _ .slnil)) (q_move (v := .map (some mf_)) rfl (by kernel_rfl)) (hu 3 rfl (bk_ (Gh.refl _) h01 (.cons _ .slnil)) (q_ldg (v := .string b0) hb0_0 rfl Tryz.isAgg9 rfl rfl) (hu 5 rfl (bk_ (Gh.refl _) h01 (.cons _ .slnil)) (q_ldg (v := .int .i64 b1) hb1_0 rfl Tryz.isAgg3 rfl rfl) ?_))))
 refine WH.lone (i := 4) (by kernel_rfl) rfl ?_
 obtain ⟨v2, ⟨A5, c6, hv3, hc7, hs8⟩, hat4⟩ := MapO.look hf_ b0 (z := .slice none 0 0) (zx := []) ⟨none, 0, rfl, Nat.zero_le _, Sl.nil _ _ _⟩
 obtain rfl : v2 = _ := List.cons.inj hv3 |>.1
 refine vb (q_lookup1 (v := .slice A5 ((mget b0 f_).getD []).length c6) hat4 rfl Tryz.underlying64 Tryz.zeroValue77 rfl rfl (i := 0) rfl) ?_
 refine WR.nil ?_
 refine WH.next (bk_ (Gh.refl _) h01 (.cons _ .slnil)) ?_
 obtain ⟨hk9, h⟩ := chk_some h
 refine hu 6 rfl (bk_ (Gh.refl _) h01 (.cons _ .slnil)) (q_cut_to (c := c6) (hi := b1.toNat) (xs := ((mget b0 f_).getD [])) Tryz.underlying77 Tryz.sizeOf5 rfl rfl (inle_eq rfl hk9) (inle_le hk9) hc7) ?_
 refine WH.lone (i := 7) (by kernel_rfl) rfl ?_
 refine e_mapUpdate (i := 0) (x := b0) (v := .slice A5 (List.take b1.toNat ((mget b0 f_).getD [])).length c6) (a := (List.take b1.toNat ((mget b0 f_).getD []))) rfl rfl rfl Tryz.underlying64 rfl rfl (by kernel_rfl) rfl hf_ (by exact ⟨A5, c6, rfl, (take_cap hc7 b1.toNat), (hs8.cut_to (hi := b1.toNat) (inle_le hk9))⟩) hb0_1 ?_
 intro row10 hm11
 refine WR.nil ?_
 refine WH.next (bk_ (Gh.refl _) h01 (.cons _ .slnil)) ?_
 refine WH.done (by kernel_rfl) ?_
 intro w hw
 obtain rfl := Option.some.inj h
 subst hF
 exact end_e (is := [0]) (by kernel_rfl) hw rfl ⟨row10, rfl, rfl, hm11, trivial⟩
abbrev r_disk_Disk_Remove_1 (mf_ : Nat) (r : List (ByteArray × (List UInt8))) (U : List Rowb) (Γ : Gh) (v : Value) : Prop := ∃ (rowf_' : Rowb), v = .tuple #[] ∧ U = [rowf_'] ∧ MapO (strK Tryz.underlying9) (slT byteT).v Γ rowf_' mf_ r ∧ True
theorem t_disk_Disk_Remove_1 {Γ : Gh} {w0 : World} {mf_ : Nat} {rowf_ : Rowb} {f_ : List (ByteArray × (List UInt8))} (hf_ : MapO (strK Tryz.underlying9) (slT byteT).v Γ rowf_ mf_ f_) {gb0 : Nat} (b0 : ByteArray) (hb0_0 : Γ gb0 = some (.cells #[.string b0] 9 (0, 0))) (hb0_1 : b0.size ≤ lim) (hp : Pre [rowf_] Γ w0) {r : List (ByteArray × (List UInt8))} (h : m_disk_Disk_Remove_1 f_ b0 = some r) : Calls Tryz.prog 161 #[.map (some mf_), (pq gb0)] w0 (Outc Γ [rowf_] w0 (r_disk_Disk_Remove_1 mf_ r)) := by
 refine calls_of (N := 5) (rs := []) (args := [.map (some mf_), (pq gb0)]) Tryz.func161 rfl Tryz.ntmps161 Tryz.results161 rfl ?_
 obtain ⟨F, hF⟩ : ∃ F : Fm, F = ⟨ids [rowf_], w0, Γ⟩ := ⟨_, rfl⟩
 refine WC.here (C := CC F Γ [rowf_]) ?_ (hF ▸ hp.start)
 refine WC.region ?_
 refine mv (v := .map (some mf_)) (vb (q_ldg (v := .string b0) hb0_0 rfl Tryz.isAgg9 rfl rfl) ?_)
 refine e_delete (i := 0) (x := b0) rfl hf_ rfl rfl rfl Tryz.underlying64 rfl rfl ?_
 intro row1 hm2
 refine WR.nil ?_
 intro w hw
 obtain rfl := Option.some.inj h
 subst hF
 exact end_e (is := [0]) (by kernel_rfl) hw rfl ⟨row1, rfl, rfl, hm2, trivial⟩
theorem t_call_Cdisk_change_do {Γ : Gh} {x : Cdisk_change_do} {A : Option Addr} {c : Nat} (hx : Cdisk_change_do.ok Γ A c x) {mf_ : Nat} {rowf_ : Rowb} {f_ : List (ByteArray × (List UInt8))} (hf_ : MapO (strK Tryz.underlying9) (slT byteT).v Γ rowf_ mf_ f_) {r : List (ByteArray × (List UInt8))} (h : m_call_Cdisk_change_do x f_ = some r) : ∃ fd caps, Cdisk_change_do.val x A c = .func (.func fd) #[] caps ∧ (∀ (args : Array Value) (w : World), (callFunc fd args).run Tryz.prog w = .ok (.enter fd args) w) ∧ ∀ w0, Pre [rowf_] Γ w0 → Calls Tryz.prog fd (#[.map (some mf_)] ++ caps) w0 (Outc Γ [rowf_] w0 (r_disk_add_1 mf_ r)) := by
  cases x with
  | disk_add_1 a0 a1 =>
    obtain ⟨⟨h0_0, h0_1⟩, ⟨g1, A1_0, c1_0, rfl, h1_0, h1_1, h1_2⟩, -⟩ := hx
    exact ⟨_, _, rfl, Tryz.call77, fun w0 hp => t_disk_add_1 hf_ a0 h0_0 h0_1 a1 h1_0 h1_1 h1_2 hp h⟩
  | disk_Disk_Cut_1 a0 a1 =>
    obtain ⟨⟨h0_0, h0_1⟩, ⟨g1, rfl, h1_0, h1_1⟩, -⟩ := hx
    exact ⟨_, _, rfl, Tryz.call155, fun w0 hp => t_disk_Disk_Cut_1 hf_ a0 h0_0 h0_1 a1 h1_0 h1_1 hp h⟩
  | disk_Disk_Remove_1 a0 =>
    obtain ⟨⟨h0_0, h0_1⟩, -⟩ := hx
    exact ⟨_, _, rfl, Tryz.call161, fun w0 hp => t_disk_Disk_Remove_1 hf_ a0 h0_0 h0_1 hp h⟩
abbrev r_disk_Disk_done (gd : Nat) (ed : Nat) (r : Odisk_Disk × Int) (U : List Rowb) (Γ : Gh) (v : Value) : Prop := ∃ (rowd' : Rowb), v = .int .i64 r.2 ∧ U = [rowd'] ∧ Odisk_Disk.ob ed Γ gd rowd' r.1 ∧ I64 r.2 ∧ True
theorem t_disk_Disk_done {Γ : Gh} {w0 : World} {gd ed : Nat} {rowd : Rowb} {d : Odisk_Disk} (hd : Odisk_Disk.ob ed Γ gd rowd d) {Ac_0 : Option Addr} {cc_0 : Nat} {Ac_2 : Option Addr} {cc_2 : Nat} (c_ : Ddisk_change) (hc_ : Ddisk_change.fits Γ Ac_0 cc_0 Ac_2 cc_2 c_) (hp : Pre [rowd] Γ w0) {r : Odisk_Disk × Int} (h : m_disk_Disk_done d c_ = some r) : Calls Tryz.prog 149 #[(pq gd), .agg #[(Cdisk_change_do.val c_.do_ Ac_0 cc_0), .string c_.name, .slice Ac_2 c_.tail.length cc_2]] w0 (Outc Γ [rowd] w0 (r_disk_Disk_done gd ed r)) := by
 refine calls_of (N := 22) (rs := [4]) (args := [(pq gd), .agg #[(Cdisk_change_do.val c_.do_ Ac_0 cc_0), .string c_.name, .slice Ac_2 c_.tail.length cc_2]]) Tryz.func149 rfl Tryz.ntmps149 Tryz.results149 rfl ?_
 obtain ⟨F, hF⟩ : ∃ F : Fm, F = ⟨ids [rowd], w0, Γ⟩ := ⟨_, rfl⟩
 refine WC.here (C := CC F Γ [rowd]) ?_ (hF ▸ hp.start)
 refine WC.rs ?_
 refine e_box (v := .agg #[(Cdisk_change_do.val c_.do_ Ac_0 cc_0), .string c_.name, .slice Ac_2 c_.tail.length cc_2]) rfl rfl rfl rfl (by kernel_rfl) ?_
 intro g1
 refine as_ (v := .int .i64 0) ?_
 refine WR.done ?_
 refine WC.seq ?_
 intro w hw; have h02 := hw.le
 refine WC.here (C := CC F Γ [[(g1, .cells #[(Cdisk_change_do.val c_.do_ Ac_0 cc_0), .string c_.name, .slice Ac_2 c_.tail.length cc_2] 96 (0, 0))], rowd]) ?_ hw; clear hw
 refine WC.held (CC F Γ [[(g1, .cells #[(Cdisk_change_do.val c_.do_ Ac_0 cc_0), .string c_.name, .slice Ac_2 c_.tail.length cc_2] 96 (0, 0))]]) (by kernel_rfl) (fun w hw => hw.drawn _) ?_
 change WH _ _ _ _ (CC F Γ [[(g1, .cells #[(Cdisk_change_do.val c_.do_ Ac_0 cc_0), .string c_.name, .slice Ac_2 c_.tail.length cc_2] 96 (0, 0))], rowd]) _ 7 #[false, false, false, false, false, false, false] _
 refine hu 0 rfl (bk_ (Gh.refl _) h02 (.cons_cons _ (.cons _ .slnil))) (q_fl 0 fld_96_0 rfl rfl rfl) (hu 1 rfl (bk_ (Gh.refl _) h02 (.cons_cons _ (.cons _ .slnil))) (q_ldl (i := 0) (v := (Cdisk_change_do.val c_.do_ Ac_0 cc_0)) rfl rfl Tryz.isAgg94 rfl rfl) (hu 2 rfl (bk_ (Gh.refl _) h02 (.cons_cons _ (.cons _ .slnil))) (q_move (v := (pq gd)) rfl (by kernel_rfl)) (hu 3 rfl (bk_ (Gh.refl _) h02 (.cons_cons _ (.cons _ .slnil))) (q_nil (A := some ⟨gd, 0, none⟩) rfl rfl rfl) (hu 4 rfl (bk_ (Gh.refl _) h02 (.cons_cons _ (.cons _ .slnil))) (q_fl 2 fld_67_2 rfl rfl rfl) ?_))))
 refine WH.lone (i := 5) (by kernel_rfl) rfl ?_
 have hq := hd
 obtain ⟨m1_3, r1_3, m2_3, r2_3, A3_3, c3_3, r3_3, hrow_3, ho0_3, ho1_3, ho2_3, ho3_3, -⟩ := hq
 intro w hw; have hw := hw.unfold (i := 1) rfl hrow_3
 refine WR.here (C := CC F Γ [[(gd, .cells #[.int .i64 d.room, .map (some m1_3), .map (some m2_3), .slice A3_3 d.loose.length c3_3] ed (0, 0))], r1_3, r2_3, r3_3, [(g1, .cells #[(Cdisk_change_do.val c_.do_ Ac_0 cc_0), .string c_.name, .slice Ac_2 c_.tail.length cc_2] 96 (0, 0))]]) ?_ hw
 clear hw
 refine vb (q_ldl (i := 0) (v := .map (some m2_3)) rfl rfl Tryz.isAgg64 rfl rfl) ?_
 refine WR.nil ?_
 refine WH.next (bk_ (Gh.refl _) h02 (.cons _ (.cons _ (.cons _ (.cons _ (.cons_cons _ .slnil)))))) ?_
 refine WH.lone (i := 6) (by kernel_rfl) rfl ?_
 obtain ⟨z4, hz5, h⟩ := bnd h
 obtain ⟨fd6, cp7, hv8, he9, hcl10⟩ := t_call_Cdisk_change_do (x := c_.do_) hc_.1 ho2_3 hz5
 refine e_call (is := [2]) rfl rfl (call_run_fv (caps := cp7) (args := #[.map (some m2_3)] ++ cp7) he9 rfl (Eq.trans (b := (Cdisk_change_do.val c_.do_ Ac_0 cc_0)) (by kernel_rfl) hv8) (by kernel_rfl)) rfl (fun w hp => (by exact hcl10 w hp)) ?_
 rintro Γ11 U13 v14 hl12 ⟨row15, rfl, rfl, hr16, _⟩
 change WR _ _ _ (CC F Γ11 [row15, [(gd, .cells #[.int .i64 d.room, .map (some m1_3), .map (some m2_3), .slice A3_3 d.loose.length c3_3] ed (0, 0))], r1_3, r3_3, [(g1, .cells #[(Cdisk_change_do.val c_.do_ Ac_0 cc_0), .string c_.name, .slice Ac_2 c_.tail.length cc_2] 96 (0, 0))]]) _ _ (upd _ 11 (.tuple #[]))
 refine WR.nil ?_
 refine WH.next (bk_ hl12 h02 (.cons _ (.cons _ (.cons _ (.cons _ (.cons_cons _ .slnil)))))) ?_
 refine WH.done (by kernel_rfl) ?_
 change WC _ _ _ _ _ _
 refine WC.seq ?_
 intro w hw; have h017 := hw.le
 refine WC.here (C := CC F Γ11 [row15, [(gd, .cells #[.int .i64 d.room, .map (some m1_3), .map (some m2_3), .slice A3_3 d.loose.length c3_3] ed (0, 0))], r1_3, r3_3, [(g1, .cells #[(Cdisk_change_do.val c_.do_ Ac_0 cc_0), .string c_.name, .slice Ac_2 c_.tail.length cc_2] 96 (0, 0))]]) ?_ hw; clear hw
 refine WC.held (CC F Γ11 [[(g1, .cells #[(Cdisk_change_do.val c_.do_ Ac_0 cc_0), .string c_.name, .slice Ac_2 c_.tail.length cc_2] 96 (0, 0))]]) (by kernel_rfl) (fun w hw => hw.drawn _) ?_
 change WH _ _ _ _ (CC F Γ11 [row15, [(gd, .cells #[.int .i64 d.room, .map (some m1_3), .map (some m2_3), .slice A3_3 d.loose.length c3_3] ed (0, 0))], r1_3, r3_3, [(g1, .cells #[(Cdisk_change_do.val c_.do_ Ac_0 cc_0), .string c_.name, .slice Ac_2 c_.tail.length cc_2] 96 (0, 0))]]) _ 11 #[false, false, false, false, false, false, false, false, false, false, false] _
 refine hu 0 rfl (bk_ (Gh.refl _) h017 (.cons _ (.cons _ (.cons _ (.cons _ (.cons_cons _ .slnil)))))) (q_move (v := (pq gd)) rfl (by kernel_rfl)) (hu 1 rfl (bk_ (Gh.refl _) h017 (.cons _ (.cons _ (.cons _ (.cons _ (.cons_cons _ .slnil)))))) (q_move (v := (pq gd)) rfl (by kernel_rfl)) (hu 2 rfl (bk_ (Gh.refl _) h017 (.cons _ (.cons _ (.cons _ (.cons _ (.cons_cons _ .slnil)))))) (q_nil (A := some ⟨gd, 0, none⟩) rfl rfl rfl) (hu 3 rfl (bk_ (Gh.refl _) h017 (.cons _ (.cons _ (.cons _ (.cons _ (.cons_cons _ .slnil)))))) (q_fl 3 fld_67_3 rfl rfl rfl) (hu 5 rfl (bk_ (Gh.refl _) h017 (.cons _ (.cons _ (.cons _ (.cons _ (.cons_cons _ .slnil)))))) (q_ldla (i := 0) (vs := [(Cdisk_change_do.val c_.do_ Ac_0 cc_0), .string c_.name, .slice Ac_2 c_.tail.length cc_2]) rfl rfl Tryz.isAgg96 Tryz.sizeOf96 rfl rfl) ?_))))
 refine WH.each (l := [4, 6]) (by kernel_rfl) (by simp) ?_
 intro i hi; simp only [List.mem_cons, List.not_mem_nil, or_false] at hi
 rcases hi with rfl | rfl
 ·
  refine ⟨_, rfl, ?_⟩
  refine vb (q_ldl (i := 1) (v := .slice A3_3 d.loose.length c3_3) rfl rfl Tryz.isAgg65 rfl rfl) ?_
  refine WR.nil ?_
  refine WH.next (bk_ (Gh.refl _) h017 (.cons _ (.cons _ (.cons _ (.cons _ (.cons_cons _ .slnil)))))) ?_
  refine WH.lone (i := 6) (by kernel_rfl) rfl ?_
  refine e_buildSlice (cs := #[(Cdisk_change_do.val c_.do_ Ac_0 cc_0), .string c_.name, .slice Ac_2 c_.tail.length cc_2]) (e := 96) rfl rfl rfl rfl (fun w => by kernel_rfl) ?_
  intro g18
  refine WR.nil ?_
  refine WH.next (bk_ (Gh.refl _) h017 (.cons _ (.cons _ (.cons _ (.cons _ (.cons _ (.cons_cons _ .slnil))))))) ?_
  refine WH.lone (i := 7) (by kernel_rfl) rfl ?_
  obtain ⟨hk19, h⟩ := chk_some h
  refine e_append (T := ddisk_changeT) (xs := d.loose) (ys := [c_]) elem_65 (i := 4) rfl rfl rfl rfl rfl rfl rfl (ho3_3.mono hl12) (of_decide_eq_true hk19) (fun w hw => src_one (T := ddisk_changeT) (y := c_) (i := 0) rfl (by exact ⟨Ac_0, cc_0, Ac_2, cc_2, rfl, (Ddisk_change.fits_mono hc_ hl12)⟩) hw) ?_
  intro row20 A21 c22 ho23
  refine WR.nil ?_
  refine WH.next (bk_ (Gh.refl _) h017 (.cons _ (.cons _ (.cons _ (.cons _ (.cons _ (.cons_cons _ .slnil))))))) ?_
  refine hu 8 rfl (bk_ (Gh.refl _) h017 (.cons _ (.cons _ (.cons _ (.cons _ (.cons _ (.cons_cons _ .slnil))))))) (q_nil (A := some ⟨gd, 0, none⟩) rfl rfl rfl) (hu 9 rfl (bk_ (Gh.refl _) h017 (.cons _ (.cons _ (.cons _ (.cons _ (.cons _ (.cons_cons _ .slnil))))))) (q_fl 3 fld_67_3 rfl rfl rfl) ?_)
  refine WH.lone (i := 10) (by kernel_rfl) rfl ?_
  refine e_st (i := 2) (v := .slice A21 (d.loose ++ [c_]).length c22) (new := #[.int .i64 d.room, .map (some m1_3), .map (some m2_3), .slice A21 (d.loose ++ [c_]).length c22]) rfl Tryz.sizeOf65 rfl rfl rfl rfl (by kernel_rfl) rfl rfl rfl rfl ?_
  refine WR.nil ?_
  refine WH.next (bk_ (Gh.refl _) h017 (.cons _ (.cons _ (.cons _ (.cons _ (.cons _ (.cons_cons _ .slnil))))))) ?_
  refine WH.done (by kernel_rfl) ?_
  change WC _ _ _ _ _ _
  refine WC.rs (as_ (v := .int .i64 0) ?_)
  refine WR.done ?_
  refine WC.ret ?_
  intro w hw
  obtain ⟨row_24, hrow_24, hob_24⟩ : ∃ rw : Rowb, rw = ([[(gd, .cells #[.int .i64 d.room, .map (some m1_3), .map (some m2_3), .slice A21 (d.loose ++ [c_]).length c22] ed (0, 0))], r1_3, row15, row20] : List Rowb).flatten ∧ Odisk_Disk.ob ed Γ11 gd rw (⟨d.room, d.safe_, z4, (d.loose ++ [c_])⟩ : Odisk_Disk) := ⟨_, rfl, m1_3, r1_3, m2_3, row15, A21, c22, row20, rfl, ho0_3, (ho1_3.mono hl12), hr16, ho23, trivial⟩
  have hw := hw.fold (is := [2, 2, 1, 1]) rfl hrow_24
  obtain rfl := Option.some.inj h
  subst hF
  exact end_e (is := [0]) (by kernel_rfl) hw rfl ⟨row_24, rfl, rfl, hob_24, (show I64 0 by decide), trivial⟩
 ·
  refine ⟨_, rfl, ?_⟩
  refine e_buildSlice (cs := #[(Cdisk_change_do.val c_.do_ Ac_0 cc_0), .string c_.name, .slice Ac_2 c_.tail.length cc_2]) (e := 96) rfl rfl rfl rfl (fun w => by kernel_rfl) ?_
  intro g18
  refine WR.nil ?_
  refine WH.next (bk_ (Gh.refl _) h017 (.cons _ (.cons _ (.cons _ (.cons _ (.cons _ (.cons_cons _ .slnil))))))) ?_
  refine WH.lone (i := 4) (by kernel_rfl) rfl ?_
  refine vb (q_ldl (i := 2) (v := .slice A3_3 d.loose.length c3_3) rfl rfl Tryz.isAgg65 rfl rfl) ?_
  refine WR.nil ?_
  refine WH.next (bk_ (Gh.refl _) h017 (.cons _ (.cons _ (.cons _ (.cons _ (.cons _ (.cons_cons _ .slnil))))))) ?_
  refine WH.lone (i := 7) (by kernel_rfl) rfl ?_
  obtain ⟨hk19, h⟩ := chk_some h
  refine e_append (T := ddisk_changeT) (xs := d.loose) (ys := [c_]) elem_65 (i := 4) rfl rfl rfl rfl rfl rfl rfl (ho3_3.mono hl12) (of_decide_eq_true hk19) (fun w hw => src_one (T := ddisk_changeT) (y := c_) (i := 0) rfl (by exact ⟨Ac_0, cc_0, Ac_2, cc_2, rfl, (Ddisk_change.fits_mono hc_ hl12)⟩) hw) ?_
  intro row20 A21 c22 ho23
  refine WR.nil ?_
  refine WH.next (bk_ (Gh.refl _) h017 (.cons _ (.cons _ (.cons _ (.cons _ (.cons _ (.cons_cons _ .slnil))))))) ?_
  refine hu 8 rfl (bk_ (Gh.refl _) h017 (.cons _ (.cons _ (.cons _ (.cons _ (.cons _ (.cons_cons _ .slnil))))))) (q_nil (A := some ⟨gd, 0, none⟩) rfl rfl rfl) (hu 9 rfl (bk_ (Gh.refl _) h017 (.cons _ (.cons _ (.cons _ (.cons _ (.cons _ (.cons_cons _ .slnil))))))) (q_fl 3 fld_67_3 rfl rfl rfl) ?_)
  refine WH.lone (i := 10) (by kernel_rfl) rfl ?_
  refine e_st (i := 2) (v := .slice A21 (d.loose ++ [c_]).length c22) (new := #[.int .i64 d.room, .map (some m1_3), .map (some m2_3), .slice A21 (d.loose ++ [c_]).length c22]) rfl Tryz.sizeOf65 rfl rfl rfl rfl (by kernel_rfl) rfl rfl rfl rfl ?_
  refine WR.nil ?_
  refine WH.next (bk_ (Gh.refl _) h017 (.cons _ (.cons _ (.cons _ (.cons _ (.cons _ (.cons_cons _ .slnil))))))) ?_
  refine WH.done (by kernel_rfl) ?_
  change WC _ _ _ _ _ _
  refine WC.rs (as_ (v := .int .i64 0) ?_)
  refine WR.done ?_
  refine WC.ret ?_
  intro w hw
  obtain ⟨row_24, hrow_24, hob_24⟩ : ∃ rw : Rowb, rw = ([[(gd, .cells #[.int .i64 d.room, .map (some m1_3), .map (some m2_3), .slice A21 (d.loose ++ [c_]).length c22] ed (0, 0))], r1_3, row15, row20] : List Rowb).flatten ∧ Odisk_Disk.ob ed Γ11 gd rw (⟨d.room, d.safe_, z4, (d.loose ++ [c_])⟩ : Odisk_Disk) := ⟨_, rfl, m1_3, r1_3, m2_3, row15, A21, c22, row20, rfl, ho0_3, (ho1_3.mono hl12), hr16, ho23, trivial⟩
  have hw := hw.fold (is := [2, 2, 1, 1]) rfl hrow_24
  obtain rfl := Option.some.inj h
  subst hF
  exact end_e (is := [0]) (by kernel_rfl) hw rfl ⟨row_24, rfl, rfl, hob_24, (show I64 0 by decide), trivial⟩
abbrev r_disk_Disk_Cut (gd : Nat) (ed : Nat) (r : Odisk_Disk × Int) (U : List Rowb) (Γ : Gh) (v : Value) : Prop := ∃ (rowd' : Rowb), v = .int .i64 r.2 ∧ U = [rowd'] ∧ Odisk_Disk.ob ed Γ gd rowd' r.1 ∧ I64 r.2 ∧ True
theorem t_disk_Disk_Cut {Γ : Gh} {w0 : World} {gd ed : Nat} {rowd : Rowb} {d : Odisk_Disk} (hd : Odisk_Disk.ob ed Γ gd rowd d) (name : ByteArray) (hname : name.size ≤ lim) (n : Int) (hn : I64 n) (hp : Pre [rowd] Γ w0) {r : Odisk_Disk × Int} (h : m_disk_Disk_Cut d name n = some r) : Calls Tryz.prog 121 #[(pq gd), .string name, .int .i64 n] w0 (Outc Γ [rowd] w0 (r_disk_Disk_Cut gd ed r)) := by
 refine calls_of (N := 31) (rs := [6]) (args := [(pq gd), .string name, .int .i64 n]) Tryz.func121 rfl Tryz.ntmps121 Tryz.results121 rfl ?_
 obtain ⟨F, hF⟩ : ∃ F : Fm, F = ⟨ids [rowd], w0, Γ⟩ := ⟨_, rfl⟩
 refine WC.here (C := CC F Γ [rowd]) ?_ (hF ▸ hp.start)
 refine WC.rs ?_
 refine e_box (v := .string name) rfl rfl rfl rfl (by kernel_rfl) ?_
 intro g1
 refine e_box (v := .int .i64 n) rfl rfl rfl rfl (by kernel_rfl) ?_
 intro g2
 refine as_ (v := .int .i64 0) ?_
 refine WR.done ?_
 refine WC.seq (WC.rs (mv (v := (pq gd)) (vb (q_ldl (i := 1) (v := .string name) rfl rfl Tryz.isAgg9 rfl rfl) ?_)))
 obtain ⟨z3, hz4, h⟩ := bnd h
 refine vc rfl rfl rfl (q_call (call_run Tryz.call154 rfl rfl (by kernel_rfl)) (fun w hw => t_disk_Disk_there (Γ := Gh.all w) (hd.mono hw.sat.le_all) (hw.ra 2 rfl) name hname (Sat.all w) hz4)) (as_ (v := .int .i64 z3) ?_)
 refine WR.done ?_
 refine WC.rs (mv (v := .int .i64 z3) (vb (q_neq rfl rfl rfl) ?_))
 refine WR.done ?_
 refine WC.cif h (by kernel_rfl) (fun hb5 h => ?_) (fun hb5 h => ?_)
 ·
  refine WC.rs (mv (v := .int .i64 z3) (as_ (v := .int .i64 z3) ?_))
  refine WR.done ?_
  refine WC.ret ?_
  intro w hw
  obtain ⟨hk6, h⟩ := chk_some h
  obtain rfl := Option.some.inj h
  subst hF
  exact end_e (is := [2]) (by kernel_rfl) hw rfl ⟨rowd, rfl, rfl, hd, (i64b_of hk6), trivial⟩
 ·
  refine WC.skip ?_
  change WC _ _ _ _ _ _
  refine WC.seq (WC.seq ?_)
  have hq := hd
  obtain ⟨m1_7, r1_7, m2_7, r2_7, A3_7, c3_7, r3_7, hrow_7, ho0_7, ho1_7, ho2_7, ho3_7, -⟩ := hq
  intro w hw; have hw := hw.unfold (i := 2) rfl hrow_7
  refine WC.here (C := CC F Γ [[(gd, .cells #[.int .i64 d.room, .map (some m1_7), .map (some m2_7), .slice A3_7 d.loose.length c3_7] ed (0, 0))], r1_7, r2_7, r3_7, [(g2, .cells #[.int .i64 n] 3 (0, 0))], [(g1, .cells #[.string name] 9 (0, 0))]]) ?_ hw
  clear hw
  refine WC.dr (by kernel_rfl) (by kernel_rfl) (fun w hw => hw.drawn _) ?_
  refine wa rfl rfl rfl (q_ldl (i := 4) (v := .int .i64 n) rfl rfl Tryz.isAgg3 rfl rfl) (wa rfl rfl rfl (q_lss rfl rfl rfl) (wa rfl rfl rfl (q_move (v := .bool (decide (n < 0))) rfl (by kernel_rfl)) (wg0 rfl rfl rfl rfl rfl (fun hg8 => QV.qo (q_ldl (i := 4) (v := .int .i64 n) rfl rfl Tryz.isAgg3 rfl rfl)) (wg0 rfl rfl rfl rfl rfl (fun hg9 => QV.qo (q_move (v := (pq gd)) rfl (by kernel_rfl))) (wg0 rfl rfl rfl rfl rfl (fun hg10 => QV.qo (q_nil (A := some ⟨gd, 0, none⟩) rfl (gu hg10 rfl) rfl)) (wg0 rfl rfl rfl rfl rfl (fun hg11 => QV.qo (q_fl 2 fld_67_2 rfl (gu hg11 rfl) rfl)) (wg0 rfl rfl rfl rfl rfl (fun hg12 => QV.qo (q_ldl (i := 0) (v := .map (some m2_7)) rfl rfl Tryz.isAgg64 (gu hg12 rfl) rfl)) ?_)))))))
  refine wg0 rfl rfl rfl rfl rfl (fun hg13 => QV.qo (q_ldl (i := 5) (v := .string name) rfl rfl Tryz.isAgg9 rfl rfl)) ?_
  obtain ⟨v15, ⟨A18, c19, hv16, hc20, hs21⟩, hat17⟩ := MapO.look ho2_7 name (z := .slice none 0 0) (zx := []) ⟨none, 0, rfl, Nat.zero_le _, Sl.nil _ _ _⟩
  obtain rfl : v15 = _ := List.cons.inj hv16 |>.1
  refine wg0 rfl rfl rfl rfl rfl (fun hg14 => QV.qo (q_lookup1 (v := .slice A18 ((mget name d.seen).getD []).length c19) hat17 rfl Tryz.underlying64 Tryz.zeroValue77 (gu hg14 rfl) (gu hg14 rfl) (i := 2) rfl)) (wg0 rfl rfl rfl rfl rfl (fun hg22 => QV.qo (q_len_slice rfl Tryz.underlying77 (gu hg22 rfl))) (wg0 rfl rfl rfl rfl rfl (fun hg23 => QV.qo (q_gtr rfl (gu hg23 rfl) (gu hg23 rfl))) (wa rfl rfl rfl (q_pick rfl rfl (pk_or' (g := (decide (n < 0))) (y := (decide (((((mget name d.seen).getD []).length : Nat) : Int) < n))))) ?_)))
  refine WQ.nil ?_
  change WC _ _ _ _ _ _
  refine WC.cif h (by kernel_rfl) (fun hb24 h => ?_) (fun hb24 h => ?_)
  ·
   refine WC.rs (as_ (v := .int .i64 1) ?_)
   refine WR.done ?_
   refine WC.ret ?_
   intro w hw
   have hw := hw.fold (is := [0, 0, 0, 0]) rfl hrow_7
   obtain rfl := Option.some.inj h
   subst hF
   exact end_e (is := [0]) (by kernel_rfl) hw rfl ⟨rowd, rfl, rfl, hd, (show I64 1 by decide), trivial⟩
  ·
   refine WC.skip ?_
   change WC _ _ _ _ _ _
   refine WC.rs (mv (v := (pq gd)) (vb (q_mkfn (v := .func (.func 155) #[] #[(pq g1), (pq g2)]) rfl (by kernel_rfl)) (vb (q_build' (v := .agg #[.func (.func 155) #[] #[(pq g1), (pq g2)], .string ByteArray.empty, .slice none 0 0]) rfl (bargs1 rfl) (fun w => by kernel_rfl)) ?_)))
   intro w hw; have hw := hw.fold (is := [0, 0, 0, 0]) rfl hrow_7
   refine WR.here (C := CC F Γ [rowd, [(g2, .cells #[.int .i64 n] 3 (0, 0))], [(g1, .cells #[.string name] 9 (0, 0))]]) ?_ hw
   clear hw
   intro w hw; obtain ⟨Γ27, hw, hl28, hr29⟩ := hw.seal (i := 2) rfl
   have hg30 := hr29 _ (List.mem_singleton.2 rfl)
   refine WR.here (C := CC F Γ27 [rowd, [(g2, .cells #[.int .i64 n] 3 (0, 0))], []]) ?_ hw
   clear hw
   intro w hw; obtain ⟨Γ31, hw, hl32, hr33⟩ := hw.seal (i := 1) rfl
   have hg34 := hr33 _ (List.mem_singleton.2 rfl)
   refine WR.here (C := CC F Γ31 [rowd, [], []]) ?_ hw
   clear hw
   have hf35 : Cdisk_change_do.ok Γ31 (some ⟨g2, 0, none⟩) g1 (Cdisk_change_do.disk_Disk_Cut_1 name n) := ⟨⟨(hl32 _ _ hg30), hname⟩, ⟨g2, rfl, hg34, hn⟩, trivial⟩
   obtain ⟨z36, hz37, h⟩ := bnd h
   refine e_call (is := [0]) rfl rfl (call_run Tryz.call149 rfl rfl (by kernel_rfl)) rfl (fun w hp => t_disk_Disk_done (hd.mono (hl28.trans hl32)) (Ac_2 := none) (cc_2 := 0) (⟨(Cdisk_change_do.disk_Disk_Cut_1 name n), ByteArray.empty, []⟩ : Ddisk_change) ⟨hf35, (show (ByteArray.empty : ByteArray).size ≤ lim by decide), ⟨Nat.zero_le _, Sl.nil _ _ _⟩⟩ hp hz37) ?_
   rintro Γ38 U40 v41 hl39 ⟨row42, rfl, rfl, hr43, hr44, _⟩
   change WR _ _ _ (CC F Γ38 [row42, [], []]) _ _ (upd _ 30 (.int .i64 z36.2))
   refine as_ (v := .int .i64 z36.2) ?_
   refine WR.done ?_
   refine WC.ret ?_
   intro w hw
   obtain rfl := Option.some.inj h
   subst hF
   exact end_e (is := [0]) (by kernel_rfl) hw rfl ⟨row42, rfl, rfl, hr43, hr44, trivial⟩
abbrev r_seglog_place_shorten (edk0 : Nat) (gp__0 : Nat) (r : Odisk_Disk) (U : List Rowb) (Γ : Gh) (v : Value) : Prop := ∃ (rowdk0' : Rowb), v = .tuple #[] ∧ U = [rowdk0'] ∧ Odisk_Disk.ob edk0 Γ gp__0 rowdk0' r ∧ True
theorem t_seglog_place_shorten {Γ : Gh} {w0 : World} {gp__0 : Nat} (p__1 : ByteArray) (hp__1 : p__1.size ≤ lim) (p__2 : Int) (hp__2 : I64 p__2) (f_ : ByteArray) (hf_ : f_.size ≤ lim) (n : Int) (hn : I64 n) {edk0 : Nat} {rowdk0 : Rowb} {dk0 : Odisk_Disk} (hdk0 : Odisk_Disk.ob edk0 Γ gp__0 rowdk0 dk0) (hp : Pre [rowdk0] Γ w0) {r : Odisk_Disk} (h : m_seglog_place_shorten p__1 p__2 f_ n dk0 = some r) : Calls Tryz.prog 86 #[.agg #[(pq gp__0), .string p__1, .int .i64 p__2], .string f_, .int .i64 n] w0 (Outc Γ [rowdk0] w0 (r_seglog_place_shorten edk0 gp__0 r)) := by
 refine calls_of (N := 24) (rs := []) (args := [.agg #[(pq gp__0), .string p__1, .int .i64 p__2], .string f_, .int .i64 n]) Tryz.func86 rfl Tryz.ntmps86 Tryz.results86 rfl ?_
 obtain ⟨F, hF⟩ : ∃ F : Fm, F = ⟨ids [rowdk0], w0, Γ⟩ := ⟨_, rfl⟩
 refine WC.here (C := CC F Γ [rowdk0]) ?_ (hF ▸ hp.start)
 refine WC.rs ?_
 refine e_box (v := .agg #[(pq gp__0), .string p__1, .int .i64 p__2]) rfl rfl rfl rfl (by kernel_rfl) ?_
 intro g1
 refine WR.done ?_
 refine WC.rs (vb (q_fl 0 fld_141_0 rfl rfl rfl) (vb (q_ldl (i := 0) (v := (pq gp__0)) rfl rfl Tryz.isAgg25 rfl rfl) (mv (v := .string f_) ?_)))
 obtain ⟨z2, hz3, h⟩ := bnd h
 refine e_call (is := [1]) rfl rfl (call_run Tryz.call39 rfl rfl (by kernel_rfl)) rfl (fun w hp => t_disk_Disk_Read hdk0 f_ hf_ hp hz3) ?_
 rintro Γ4 U6 v7 hl5 ⟨A8, c9, row10, rfl, rfl, hr11, _⟩
 change WR _ _ _ (CC F Γ4 [rowdk0, row10, [(g1, .cells #[(pq gp__0), .string p__1, .int .i64 p__2] 141 (0, 0))]]) _ _ (upd _ 12 (.tuple #[.slice A8 z2.1.length c9, .bool z2.2]))
 refine mv (v := .tuple #[.slice A8 z2.1.length c9, .bool z2.2]) (vb (q_extract (v := .slice A8 z2.1.length c9) rfl rfl rfl) (vb (q_extract (v := .bool z2.2) rfl rfl rfl) (as_ (v := .slice A8 z2.1.length c9) (as_ (v := .bool z2.2) ?_))))
 refine WR.done ?_
 refine WC.rs (mv (v := .slice A8 z2.1.length c9) (vb (q_len_slice rfl Tryz.underlying77 rfl) (mv (v := .int .i64 n) (vb (q_gtr rfl rfl rfl) ?_))))
 refine WR.done ?_
 refine WC.cif h (by kernel_rfl) (fun hb12 h => ?_) (fun hb12 h => ?_)
 ·
  refine WC.region ?_
  refine vb (q_fl 0 fld_141_0 rfl rfl rfl) (vb (q_ldl (i := 2) (v := (pq gp__0)) rfl rfl Tryz.isAgg25 rfl rfl) (mv (v := .string f_) (mv (v := .int .i64 n) ?_)))
  obtain ⟨z13, hz14, h⟩ := bnd h
  refine e_call (is := [0]) rfl rfl (call_run Tryz.call121 rfl rfl (by kernel_rfl)) rfl (fun w hp => t_disk_Disk_Cut (hdk0.mono hl5) f_ hf_ n hn hp hz14) ?_
  rintro Γ15 U17 v18 hl16 ⟨row19, rfl, rfl, hr20, hr21, _⟩
  change WR _ _ _ (CC F Γ15 [row19, row10, [(g1, .cells #[(pq gp__0), .string p__1, .int .i64 p__2] 141 (0, 0))]]) _ _ (upd _ 23 (.int .i64 z13.2))
  refine WR.nil ?_
  intro w hw
  obtain rfl := Option.some.inj h
  subst hF
  exact end_e (is := [0]) (by kernel_rfl) hw rfl ⟨row19, rfl, rfl, hr20, trivial⟩
 ·
  refine WC.skip ?_
  intro w hw
  obtain rfl := Option.some.inj h
  subst hF
  exact end_e (is := [0]) (by kernel_rfl) hw rfl ⟨rowdk0, rfl, rfl, (hdk0.mono hl5), trivial⟩
abbrev r_disk_Disk_Names (gd : Nat) (ed : Nat) (rowd : Rowb) (r : List ByteArray) (U : List Rowb) (Γ : Gh) (v : Value) : Prop := ∃ (A0 : Option Addr), ∃ (c0 : Nat), ∃ (row0 : Rowb), v = .slice A0 r.length c0 ∧ U = [rowd, row0] ∧ Own strT Γ 9 row0 A0 c0 r ∧ True
theorem t_disk_Disk_Names {Γ : Gh} {w0 : World} {gd ed : Nat} {rowd : Rowb} {d : Odisk_Disk} (hd : Odisk_Disk.ob ed Γ gd rowd d) (hp : Pre [rowd] Γ w0) {r : List ByteArray} (h : m_disk_Disk_Names d = some r) : Calls Tryz.prog 157 #[(pq gd)] w0 (Outc Γ [rowd] w0 (r_disk_Disk_Names gd ed rowd r)) := by
 refine calls_of (N := 9) (rs := [2]) (args := [(pq gd)]) Tryz.func157 rfl Tryz.ntmps157 Tryz.results157 rfl ?_
 obtain ⟨F, hF⟩ : ∃ F : Fm, F = ⟨ids [rowd], w0, Γ⟩ := ⟨_, rfl⟩
 refine WC.here (C := CC F Γ [rowd]) ?_ (hF ▸ hp.start)
 refine WC.rs (as_ (v := .slice none 0 0) ?_)
 refine WR.done ?_
 refine WC.rs (mv (v := (pq gd)) (vb (q_nil (A := some ⟨gd, 0, none⟩) rfl rfl rfl) (vb (q_fl 2 fld_67_2 rfl rfl rfl) ?_)))
 have hq := hd
 obtain ⟨m1_1, r1_1, m2_1, r2_1, A3_1, c3_1, r3_1, hrow_1, ho0_1, ho1_1, ho2_1, ho3_1, -⟩ := hq
 intro w hw; have hw := hw.unfold (i := 0) rfl hrow_1
 refine WR.here (C := CC F Γ [[(gd, .cells #[.int .i64 d.room, .map (some m1_1), .map (some m2_1), .slice A3_1 d.loose.length c3_1] ed (0, 0))], r1_1, r2_1, r3_1]) ?_ hw
 clear hw
 refine vb (q_ldl (i := 0) (v := .map (some m2_1)) rfl rfl Tryz.isAgg64 rfl rfl) ?_
 refine e_keys (ρ := keys192_ren) keys192 (mb := some m2_1) rfl rfl (call_run Tryz.call192 rfl rfl (by kernel_rfl)) ?_
 intro g2
 change WR _ _ _ (CC F Γ [[(g2, .cells #[.map (some m2_1)] 64 (0, 0))], [(gd, .cells #[.int .i64 d.room, .map (some m1_1), .map (some m2_1), .slice A3_1 d.loose.length c3_1] ed (0, 0))], r1_1, r2_1, r3_1]) _ _ (upd _ 7 (.func (.func 217) #[] #[(pq g2)]))
 obtain ⟨hk3, h⟩ := chk_some h
 refine e_call (is := [0, 2]) rfl rfl (call_run Tryz.call108 rfl rfl (by kernel_rfl)) rfl (fun w hp => sk108_192 ho2_1 (of_decide_eq_true hk3) hp) ?_
 rintro Γ4 U6 v7 hl5 ⟨A8, c9, row10, rfl, rfl, ho11⟩
 change WR _ _ _ (CC F Γ4 [[(g2, .cells #[.map (some m2_1)] 64 (0, 0))], r2_1, row10, [(gd, .cells #[.int .i64 d.room, .map (some m1_1), .map (some m2_1), .slice A3_1 d.loose.length c3_1] ed (0, 0))], r1_1, r3_1]) _ _ (upd _ 8 (.slice A8 (skeys d.seen).length c9))
 refine as_ (v := .slice A8 (skeys d.seen).length c9) ?_
 refine WR.done ?_
 refine WC.ret ?_
 intro w hw
 have hw := hw.fold (is := [3, 3, 1, 2]) rfl hrow_1
 obtain rfl := Option.some.inj h
 subst hF
 exact end_e (is := [0, 1]) (by kernel_rfl) hw rfl ⟨A8, c9, row10, rfl, rfl, ho11, trivial⟩
theorem t_internal_stringslite_HasPrefix {Γ : Gh} {w0 : World} (s_ : ByteArray) (hs_ : s_.size ≤ lim) (prefix_ : ByteArray) (hprefix_ : prefix_.size ≤ lim) (hs : Sat Γ w0) {r : Bool} (h : m_internal_stringslite_HasPrefix s_ prefix_ = some r) : Calls Tryz.prog 218 #[.string s_, .string prefix_] w0 (fun e w' => e = .returned (.bool r) ∧ Fr no w0 w') := by
 refine calls_of (N := 18) (rs := [4]) (args := [.string s_, .string prefix_]) Tryz.func218 rfl Tryz.ntmps218 Tryz.results218 rfl ?_
 obtain ⟨F, hF⟩ : ∃ F : Fm, F = ⟨no, w0, Γ⟩ := ⟨_, rfl⟩
 refine WC.here (C := CC F Γ []) ?_ (hF ▸ Cur.start0 hs)
 refine WC.rs (as_ (v := .bool false) ?_)
 refine WR.done ?_
 refine WC.rs (mv (v := .string s_) (vb (q_len_str rfl Tryz.underlying9 rfl) (mv (v := .string prefix_) (vb (q_len_str rfl Tryz.underlying9 rfl) (vb (q_geq rfl rfl rfl) (mv (v := .bool (decide (((prefix_.size : Nat) : Int) ≤ ((s_.size : Nat) : Int)))) (vg1 rfl rfl rfl rfl rfl (fun hg1 => QV.qo (q_move (v := .string s_) rfl (by kernel_rfl))) ?_)))))))
 refine vg1 rfl rfl rfl rfl rfl (fun hg2 => QV.qo (q_move (v := .string prefix_) rfl (by kernel_rfl))) (vg1 rfl rfl rfl rfl rfl (fun hg3 => QV.qo (q_len_str rfl Tryz.underlying9 (gu hg3 rfl))) ?_)
 obtain ⟨hk5, h⟩ := chk_some h
 refine vg1 rfl rfl rfl rfl rfl (fun hg4 => QV.qo (q_scut_hi Tryz.underlying9 rfl (gu hg4 rfl) (gu hg4 rfl) (of_decide_eq_true (imp_of hk5 hg4)))) (vg1 rfl rfl rfl rfl rfl (fun hg6 => QV.qo (q_move (v := .string prefix_) rfl (by kernel_rfl))) (vg1 rfl rfl rfl rfl rfl (fun hg7 => QV.qo (q_seql rfl (gu hg7 rfl) (gu hg7 rfl))) (vb (q_pick rfl rfl (pk_and' (g := (decide (((prefix_.size : Nat) : Int) ≤ ((s_.size : Nat) : Int)))) (y := ((s_.extract 0 prefix_.size) == prefix_)))) (as_ (v := .bool ((decide (((prefix_.size : Nat) : Int) ≤ ((s_.size : Nat) : Int))) && ((s_.extract 0 prefix_.size) == prefix_))) ?_))))
 refine WR.done ?_
 refine WC.ret ?_
 intro w hw
 obtain rfl := Option.some.inj h
 subst hF
 exact ⟨by kernel_rfl, hw.fr⟩
theorem t_internal_stringslite_CutPrefix {Γ : Gh} {w0 : World} (s_ : ByteArray) (hs_ : s_.size ≤ lim) (prefix_ : ByteArray) (hprefix_ : prefix_.size ≤ lim) (hs : Sat Γ w0) {r : ByteArray × Bool} (h : m_internal_stringslite_CutPrefix s_ prefix_ = some r) : Calls Tryz.prog 193 #[.string s_, .string prefix_] w0 (fun e w' => e = .returned (.tuple #[.string r.1, .bool r.2]) ∧ Fr no w0 w') := by
 refine calls_of (N := 15) (rs := [4, 5]) (args := [.string s_, .string prefix_]) Tryz.func193 rfl Tryz.ntmps193 Tryz.results193 rfl ?_
 obtain ⟨F, hF⟩ : ∃ F : Fm, F = ⟨no, w0, Γ⟩ := ⟨_, rfl⟩
 refine WC.here (C := CC F Γ []) ?_ (hF ▸ Cur.start0 hs)
 refine WC.rs (as_ (v := .string ByteArray.empty) (as_ (v := .bool false) ?_))
 refine WR.done ?_
 refine WC.seq (WC.rs (mv (v := .string s_) (mv (v := .string prefix_) ?_)))
 obtain ⟨z1, hz2, h⟩ := bnd h
 refine vc rfl rfl rfl (q_call (call_run Tryz.call218 rfl rfl (by kernel_rfl)) (fun w hw => t_internal_stringslite_HasPrefix (Γ := Gh.all w) s_ hs_ prefix_ hprefix_ (Sat.all w) hz2)) (vb (q_not rfl rfl) ?_)
 refine WR.done ?_
 refine WC.cif h (by kernel_rfl) (fun hb3 h => ?_) (fun hb3 h => ?_)
 ·
  refine WC.rs (mv (v := .string s_) (as_ (v := .string s_) (as_ (v := .bool false) ?_)))
  refine WR.done ?_
  refine WC.ret ?_
  intro w hw
  obtain rfl := Option.some.inj h
  subst hF
  exact ⟨by kernel_rfl, hw.fr⟩
 ·
  refine WC.skip ?_
  change WC _ _ _ _ _ _
  refine WC.rs (mv (v := .string s_) (mv (v := .string prefix_) (vb (q_len_str rfl Tryz.underlying9 rfl) ?_)))
  obtain ⟨hk4, h⟩ := chk_some h
  refine vb (q_scut_lo Tryz.underlying9 rfl rfl rfl (of_decide_eq_true hk4)) (as_ (v := .string (s_.extract prefix_.size s_.size)) (as_ (v := .bool true) ?_))
  refine WR.done ?_
  refine WC.ret ?_
  intro w hw
  obtain rfl := Option.some.inj h
  subst hF
  exact ⟨by kernel_rfl, hw.fr⟩
theorem t_strings_CutPrefix {Γ : Gh} {w0 : World} (s_ : ByteArray) (hs_ : s_.size ≤ lim) (prefix_ : ByteArray) (hprefix_ : prefix_.size ≤ lim) (hs : Sat Γ w0) {r : ByteArray × Bool} (h : m_strings_CutPrefix s_ prefix_ = some r) : Calls Tryz.prog 158 #[.string s_, .string prefix_] w0 (fun e w' => e = .returned (.tuple #[.string r.1, .bool r.2]) ∧ Fr no w0 w') := by
 refine calls_of (N := 11) (rs := [4, 5]) (args := [.string s_, .string prefix_]) Tryz.func158 rfl Tryz.ntmps158 Tryz.results158 rfl ?_
 obtain ⟨F, hF⟩ : ∃ F : Fm, F = ⟨no, w0, Γ⟩ := ⟨_, rfl⟩
 refine WC.here (C := CC F Γ []) ?_ (hF ▸ Cur.start0 hs)
 refine WC.rs (as_ (v := .string ByteArray.empty) (as_ (v := .bool false) ?_))
 refine WR.done ?_
 refine WC.rs (mv (v := .string s_) (mv (v := .string prefix_) ?_))
 obtain ⟨z1, hz2, h⟩ := bnd h
 refine vc rfl rfl rfl (q_call (call_run Tryz.call193 rfl rfl (by kernel_rfl)) (fun w hw => t_internal_stringslite_CutPrefix (Γ := Gh.all w) s_ hs_ prefix_ hprefix_ (Sat.all w) hz2)) (vb (q_extract (v := .string z1.1) rfl rfl rfl) (vb (q_extract (v := .bool z1.2) rfl rfl rfl) (as_ (v := .string z1.1) (as_ (v := .bool z1.2) ?_))))
 refine WR.done ?_
 refine WC.ret ?_
 intro w hw
 obtain rfl := Option.some.inj h
 subst hF
 exact ⟨by kernel_rfl, hw.fr⟩
theorem t_internal_stringslite_Cut {Γ : Gh} {w0 : World} (s_ : ByteArray) (hs_ : s_.size ≤ lim) (hs : Sat Γ w0) {r : ByteArray × ByteArray × Bool} (h : m_internal_stringslite_Cut s_ = some r) : Calls Tryz.prog 194 #[.string s_, .string (⟨#[46]⟩ : ByteArray)] w0 (fun e w' => e = .returned (.tuple #[.string r.1, .string r.2.1, .bool r.2.2]) ∧ Fr no w0 w') := by
 refine calls_of (N := 23) (rs := [4, 5, 6]) (args := [.string s_, .string (⟨#[46]⟩ : ByteArray)]) Tryz.func194 rfl Tryz.ntmps194 Tryz.results194 rfl ?_
 obtain ⟨F, hF⟩ : ∃ F : Fm, F = ⟨no, w0, Γ⟩ := ⟨_, rfl⟩
 refine WC.here (C := CC F Γ []) ?_ (hF ▸ Cur.start0 hs)
 refine WC.rs (as_ (v := .string ByteArray.empty) (as_ (v := .string ByteArray.empty) (as_ (v := .bool false) ?_)))
 refine WR.done ?_
 refine WC.seq (WC.rs (mv (v := .string s_) (mv (v := .string (⟨#[46]⟩ : ByteArray)) ?_)))
 obtain ⟨z1, hz2, h⟩ := bnd h
 refine vc rfl rfl rfl (q_call (call_run Tryz.call152 rfl rfl (by kernel_rfl)) (fun w hw => t_internal_stringslite_Index (Γ := Gh.all w) s_ hs_ (Sat.all w) hz2)) (as_ (v := .int .i64 z1) ?_)
 refine WR.done ?_
 refine WC.rs (mv (v := .int .i64 z1) (vb (q_geq rfl rfl rfl) ?_))
 refine WR.done ?_
 refine WC.cif h (by kernel_rfl) (fun hb3 h => ?_) (fun hb3 h => ?_)
 ·
  refine WC.seq ?_
  refine WC.dr (by kernel_rfl) (by kernel_rfl) (fun w hw => hw.drawn _) ?_
  refine wa rfl rfl rfl (q_move (v := .string s_) rfl (by kernel_rfl)) (wa rfl rfl rfl (q_move (v := .int .i64 z1) rfl (by kernel_rfl)) ?_)
  obtain ⟨hk4, h⟩ := chk_some h
  refine wa rfl rfl rfl (q_scut_hi Tryz.underlying9 rfl rfl (inle_eq rfl hk4) (inle_le hk4)) (wa rfl rfl rfl (q_move (v := .string s_) rfl (by kernel_rfl)) (wa rfl rfl rfl (q_move (v := .int .i64 z1) rfl (by kernel_rfl)) (wa rfl rfl rfl (q_move (v := .string (⟨#[46]⟩ : ByteArray)) rfl (by kernel_rfl)) (wa rfl rfl rfl (show QV _ _ _ _ (.int .i64 1) from (show QV _ _ _ _ (.int .i64 (((⟨#[46]⟩ : ByteArray).size : Nat) : Int)) from q_len_str rfl Tryz.underlying9 rfl)) (wa rfl rfl rfl (q_add rfl rfl rfl) ?_)))))
  obtain ⟨hk5, h⟩ := chk_some h
  refine wa rfl rfl rfl (q_scut_lo Tryz.underlying9 rfl rfl (inle_eq rfl hk5) (inle_le hk5)) (wa rfl rfl rfl (q_assign (v := .string (s_.extract 0 z1.toNat)) rfl (by kernel_rfl)) (wa rfl rfl rfl (q_assign (v := .string (s_.extract ((w64 (z1 + 1)).toNat) s_.size)) rfl (by kernel_rfl)) (wa rfl rfl rfl (q_assign (v := .bool true) rfl (by kernel_rfl)) ?_)))
  refine WQ.nil ?_
  change WC _ _ _ _ _ _
  refine WC.ret ?_
  intro w hw
  obtain rfl := Option.some.inj h
  subst hF
  exact ⟨by kernel_rfl, hw.fr⟩
 ·
  refine WC.skip ?_
  change WC _ _ _ _ _ _
  refine WC.rs (mv (v := .string s_) (as_ (v := .string s_) (as_ (v := .string ByteArray.empty) (as_ (v := .bool false) ?_))))
  refine WR.done ?_
  refine WC.ret ?_
  intro w hw
  obtain rfl := Option.some.inj h
  subst hF
  exact ⟨by kernel_rfl, hw.fr⟩
theorem t_strings_Cut {Γ : Gh} {w0 : World} (s_ : ByteArray) (hs_ : s_.size ≤ lim) (hs : Sat Γ w0) {r : ByteArray × ByteArray × Bool} (h : m_strings_Cut s_ = some r) : Calls Tryz.prog 159 #[.string s_, .string (⟨#[46]⟩ : ByteArray)] w0 (fun e w' => e = .returned (.tuple #[.string r.1, .string r.2.1, .bool r.2.2]) ∧ Fr no w0 w') := by
 refine calls_of (N := 13) (rs := [4, 5, 6]) (args := [.string s_, .string (⟨#[46]⟩ : ByteArray)]) Tryz.func159 rfl Tryz.ntmps159 Tryz.results159 rfl ?_
 obtain ⟨F, hF⟩ : ∃ F : Fm, F = ⟨no, w0, Γ⟩ := ⟨_, rfl⟩
 refine WC.here (C := CC F Γ []) ?_ (hF ▸ Cur.start0 hs)
 refine WC.rs (as_ (v := .string ByteArray.empty) (as_ (v := .string ByteArray.empty) (as_ (v := .bool false) ?_)))
 refine WR.done ?_
 refine WC.rs (mv (v := .string s_) (mv (v := .string (⟨#[46]⟩ : ByteArray)) ?_))
 obtain ⟨z1, hz2, h⟩ := bnd h
 refine vc rfl rfl rfl (q_call (call_run Tryz.call194 rfl rfl (by kernel_rfl)) (fun w hw => t_internal_stringslite_Cut (Γ := Gh.all w) s_ hs_ (Sat.all w) hz2)) (vb (q_extract (v := .string z1.1) rfl rfl rfl) (vb (q_extract (v := .string z1.2.1) rfl rfl rfl) (vb (q_extract (v := .bool z1.2.2) rfl rfl rfl) (as_ (v := .string z1.1) (as_ (v := .string z1.2.1) (as_ (v := .bool z1.2.2) ?_))))))
 refine WR.done ?_
 refine WC.ret ?_
 intro w hw
 obtain rfl := Option.some.inj h
 subst hF
 exact ⟨by kernel_rfl, hw.fr⟩
theorem t_num_Read {Γ : Gh} {w0 : World} (s_ : ByteArray) (hs_ : s_.size ≤ lim) (hs : Sat Γ w0) {r : Int × Int} (h : m_num_Read s_ = some r) : Calls Tryz.prog 160 #[.string s_] w0 (fun e w' => e = .returned (.tuple #[.int .i64 r.1, .int .i64 r.2]) ∧ Fr no w0 w') := by
 refine calls_of (N := 48) (rs := [2, 3]) (args := [.string s_]) Tryz.func160 rfl Tryz.ntmps160 Tryz.results160 rfl ?_
 obtain ⟨F, hF⟩ : ∃ F : Fm, F = ⟨no, w0, Γ⟩ := ⟨_, rfl⟩
 refine WC.here (C := CC F Γ []) ?_ (hF ▸ Cur.start0 hs)
 refine WC.rs (as_ (v := .int .i64 0) (as_ (v := .int .i64 0) ?_))
 refine WR.done ?_
 refine WC.seq (WC.rs (mv (v := .string s_) (vb (q_seql rfl rfl rfl) (mv (v := .bool (s_ == ByteArray.empty)) (vg0 rfl rfl rfl rfl rfl (fun hg1 => QV.qo (q_move (v := .string s_) rfl (by kernel_rfl))) (vg0 rfl rfl rfl rfl rfl (fun hg2 => QV.qo (q_len_str rfl Tryz.underlying9 (gu hg2 rfl))) (vg0 rfl rfl rfl rfl rfl (fun hg3 => QV.qo (q_gtr rfl (gu hg3 rfl) rfl)) ?_)))))))
 refine vg0 rfl rfl rfl rfl rfl (fun hg4 => QV.qo (q_move (v := .bool (decide (1 < ((s_.size : Nat) : Int)))) rfl (gu hg4 rfl))) (vh1 (c0 := (!(s_ == ByteArray.empty))) (g := (decide (1 < ((s_.size : Nat) : Int)))) rfl rfl rfl rfl rfl (fun hg5 => QV.qo (q_move (v := .string s_) rfl (by kernel_rfl))) ?_)
 obtain ⟨hk7, h⟩ := chk_some h
 refine vh1 (c0 := (!(s_ == ByteArray.empty))) (g := (decide (1 < ((s_.size : Nat) : Int)))) rfl rfl rfl rfl rfl (fun hg6 => QV.qo (q_sixn (i := 0) Tryz.underlying9 rfl (gu hg6 rfl) rfl (of_decide_eq_true (imp_of hk7 hg6)))) (vh1 (c0 := (!(s_ == ByteArray.empty))) (g := (decide (1 < ((s_.size : Nat) : Int)))) rfl rfl rfl rfl rfl (fun hg8 => QV.qo (q_eql rfl (gu hg8 rfl) rfl)) (vg0 rfl rfl rfl rfl rfl (fun hg9 => QV.qo (q_pick rfl (gu hg9 rfl) (pk_and (c := (!(s_ == ByteArray.empty))) (g := (decide (1 < ((s_.size : Nat) : Int)))) (y := ((((gt s_.data.toList 0).toNat : Nat) : Int) == 48)) hg9))) (vb (q_pick rfl rfl (pk_or' (g := (s_ == ByteArray.empty)) (y := ((decide (1 < ((s_.size : Nat) : Int))) && ((((gt s_.data.toList 0).toNat : Nat) : Int) == 48))))) (mv (v := .bool ((s_ == ByteArray.empty) || ((decide (1 < ((s_.size : Nat) : Int))) && ((((gt s_.data.toList 0).toNat : Nat) : Int) == 48)))) (vg0 rfl rfl rfl rfl rfl (fun hg10 => QV.qo (q_move (v := .string s_) rfl (by kernel_rfl))) (vg0 rfl rfl rfl rfl rfl (fun hg11 => QV.qo (q_len_str rfl Tryz.underlying9 (gu hg11 rfl))) (vg0 rfl rfl rfl rfl rfl (fun hg12 => QV.qo (q_gtr rfl (gu hg12 rfl) rfl)) ?_)))))))
 refine vb (q_pick rfl rfl (pk_or' (g := ((s_ == ByteArray.empty) || ((decide (1 < ((s_.size : Nat) : Int))) && ((((gt s_.data.toList 0).toNat : Nat) : Int) == 48)))) (y := (decide (19 < ((s_.size : Nat) : Int)))))) ?_
 refine WR.done ?_
 refine WC.cif h (by kernel_rfl) (fun hb13 h => ?_) (fun hb13 h => ?_)
 ·
  refine WC.rs (as_ (v := .int .i64 0) (as_ (v := .int .i64 2) ?_))
  refine WR.done ?_
  refine WC.ret ?_
  intro w hw
  obtain rfl := Option.some.inj h
  subst hF
  exact ⟨by kernel_rfl, hw.fr⟩
 ·
  refine WC.skip ?_
  change WC _ _ _ _ _ _
  refine WC.rs (as_ (v := .int .u64 0) ?_)
  refine WR.done ?_
  refine WC.seq (WC.rs (mv (v := .string s_) ?_))
  refine e_convB (src := 9) (dst := 77) (s := s_) Tryz.underlying9 Tryz.underlying77 Tryz.underlying5 hs_ rfl rfl rfl rfl rfl ?_
  intro Γ14 A15 c16 hl17 hs18 hc19
  refine vb (q_len_slice rfl Tryz.underlying77 rfl) (mv (v := .int .i64 0) ?_)
  refine WR.done ?_
  refine WC.block ?_
  refine WC.forI h (fun (i23 : Nat) (n_20 : Int) σ w => slots σ [(4, .int .u64 n_20), (25, .slice A15 (s_.data.toList).length c16), (26, .int .i64 (((s_.data.toList).length : Nat) : Int)), (27, .int .i64 ((i23 : Nat) : Int))] ∧ CC F Γ14 [] w ∧ U64 n_20 ∧ True) ?_ ?_
  ·
   intro w hw
   exact ⟨(sl_ (by kernel_rfl)), (hw.only (is := []) rfl), (show U64 0 by decide), trivial⟩
  rintro f22 i23 n_20 σ w hi24 hlt25 hge26 ⟨hsl, hw, hr21, -⟩
  refine Wpt.slots hsl ?_
  refine WC.here (C := CC F Γ14 []) ?_ hw
  clear hw hsl
  refine WC.rs (vb (q_lss rfl rfl rfl) ?_)
  refine WR.done ?_
  refine WC.seq ?_
  refine WC.cond (b := (decide (((i23 : Nat) : Int) < (((s_.data.toList).length : Nat) : Int)))) (by kernel_rfl) (fun hb27 => ?_) (fun hb27 => ?_)
  ·
   have hl28 := ilt hb27
   have h := hlt25 hl28
   refine WC.skip ?_
   change WC _ _ _ _ _ _
   refine WC.seq (WC.block (WC.rs (vb (q_ixn (i := i23) Tryz.underlying77 Tryz.sizeOf5 rfl rfl rfl hl28 (hs18.some_ hl28)) (vb (q_ld (c := 0) (v := .int .u8 (((gt (s_.data.toList) i23).toNat : Nat) : Int)) (hs18.byteT_at hl28).2 rfl Tryz.isAgg5 rfl rfl) (as_ (v := .int .u8 (((gt (s_.data.toList) i23).toNat : Nat) : Int)) ?_)))))
   refine WR.done ?_
   refine WC.seq (WC.rs (mv (v := .int .u8 (((gt (s_.data.toList) i23).toNat : Nat) : Int)) (vb (q_lss rfl rfl rfl) (mv (v := .bool (decide ((((gt (s_.data.toList) i23).toNat : Nat) : Int) < 48))) (vg0 rfl rfl rfl rfl rfl (fun hg29 => QV.qo (q_move (v := .int .u8 (((gt (s_.data.toList) i23).toNat : Nat) : Int)) rfl (by kernel_rfl))) (vg0 rfl rfl rfl rfl rfl (fun hg30 => QV.qo (q_gtr rfl (gu hg30 rfl) rfl)) (vb (q_pick rfl rfl (pk_or' (g := (decide ((((gt (s_.data.toList) i23).toNat : Nat) : Int) < 48))) (y := (decide (57 < (((gt (s_.data.toList) i23).toNat : Nat) : Int)))))) ?_)))))))
   refine WR.done ?_
   refine WC.cif h (by kernel_rfl) (fun hb31 h => ?_) (fun hb31 h => ?_)
   ·
    refine WC.rs (as_ (v := .int .i64 0) (as_ (v := .int .i64 2) ?_))
    refine WR.done ?_
    refine WC.ret ?_
    intro w hw
    obtain rfl := Option.some.inj h
    subst hF
    exact ⟨by kernel_rfl, hw.fr⟩
   ·
    refine WC.skip ?_
    change WC _ _ _ _ _ _
    refine WC.region ?_
    refine mv (v := .int .u64 n_20) (vb (q_mul rfl rfl rfl) (mv (v := .int .u8 (((gt (s_.data.toList) i23).toNat : Nat) : Int)) (vb (q_sub rfl rfl rfl) (vb (q_conv Tryz.underlying82 Tryz.underlying5 rfl rfl) (vb (q_add rfl rfl rfl) (as_ (v := .int .u64 (wu64 ((wu64 (10 * n_20)) + (wu64 (wu8 ((((gt (s_.data.toList) i23).toNat : Nat) : Int) - 48)))))) ?_))))))
    refine WR.nil ?_
    change WC _ _ _ _ _ _
    refine WC.region ?_
    refine vb (q_add_r (r := ((i23 + 1 : Nat) : Int)) rfl rfl rfl (ctr_len hl28 hs18.le)) (mv (v := .int .i64 ((i23 + 1 : Nat) : Int)) ?_)
    refine WR.nil ?_
    intro w hw
    exact ⟨hl28, (wu64 ((wu64 (10 * n_20)) + (wu64 (wu8 ((((gt (s_.data.toList) i23).toNat : Nat) : Int) - 48))))), h, (sl_ (by kernel_rfl)), hw, (wu64_r _), trivial⟩
  ·
   have h := hge26 (ige hb27)
   refine WC.exit ?_
   change WC _ _ _ _ _ _
   refine WC.seq (WC.rs (mv (v := .int .u64 n_20) (vb (q_geq rfl rfl rfl) ?_)))
   refine WR.done ?_
   refine WC.cif h (by kernel_rfl) (fun hb32 h => ?_) (fun hb32 h => ?_)
   ·
    refine WC.rs (as_ (v := .int .i64 0) (as_ (v := .int .i64 2) ?_))
    refine WR.done ?_
    refine WC.ret ?_
    intro w hw
    obtain rfl := Option.some.inj h
    subst hF
    exact ⟨by kernel_rfl, hw.fr⟩
   ·
    refine WC.skip ?_
    change WC _ _ _ _ _ _
    refine WC.rs (mv (v := .int .u64 n_20) (vb (q_conv Tryz.underlying2 Tryz.underlying82 rfl rfl) (as_ (v := .int .i64 (w64 n_20)) (as_ (v := .int .i64 0) ?_))))
    refine WR.done ?_
    refine WC.ret ?_
    intro w hw
    obtain rfl := Option.some.inj h
    subst hF
    exact ⟨by kernel_rfl, hw.fr⟩
abbrev r_seglog_place_parts_1 (J : Gh → Rowb → YSseglog_place_parts_1 → Prop) (lY : Nat) (gb0 : Nat) (gb0v0 : Nat) (eb0v0 : Nat) (b0v0 : Odisk_Disk) (rowb0v0 : Rowb) (b0v1 : ByteArray) (b0v2 : Int) (r : YSseglog_place_parts_1) (U : List Rowb) (Γ : Gh) (v : Value) : Prop := ∃ (rowsY' : Rowb), v = .tuple #[] ∧ U = [rowsY', [(gb0, .cells #[.pointer (some ⟨gb0v0, 0, none⟩), .string b0v1, .int .i64 b0v2] 141 (0, 0))], rowb0v0] ∧ YSseglog_place_parts_1.ob J Γ lY rowsY' r ∧ True
theorem t_seglog_place_parts_1 {Γ : Gh} {w0 : World} {J : Gh → Rowb → YSseglog_place_parts_1 → Prop} {Y : YSseglog_place_parts_1 → ByteArray → Int → Int → Option YSseglog_place_parts_1} {lY : Nat} (hY : ∀ {Γ : Gh} {w : World} {row : Rowb} {s s' : YSseglog_place_parts_1} (y0_ : ByteArray) (hy0_ : y0_.size ≤ lim) (y1_0 : Int) (hy1_0 : I64 y1_0) (y1_1 : Int) (hy1_1 : I64 y1_1) (hs : YSseglog_place_parts_1.ob J Γ lY row s) (hp : Pre [row] Γ w) (h : Y s y0_ y1_0 y1_1 = some s'), YieldAt (FR none) 0 Tryz.prog lY #[.string y0_, .agg #[.int .i64 y1_0, .int .i64 y1_1]] w (Outc Γ [row] w fun U Δ v => ∃ row' : Rowb, v = .bool true ∧ U = [row'] ∧ YSseglog_place_parts_1.ob J Δ lY row' s')) {rowsY : Rowb} {sY : YSseglog_place_parts_1} (hsY : YSseglog_place_parts_1.ob J Γ lY rowsY sY) {gb0 : Nat} {gb0v0 : Nat} {eb0v0 : Nat} {rowb0v0 : Rowb} {b0v0 : Odisk_Disk} (hb0v0 : Odisk_Disk.ob eb0v0 Γ gb0v0 rowb0v0 b0v0) (b0v1 : ByteArray) (hb0v1 : b0v1.size ≤ lim) (b0v2 : Int) (hb0v2 : I64 b0v2) (hp : Pre [rowsY, [(gb0, .cells #[(pq gb0v0), .string b0v1, .int .i64 b0v2] 141 (0, 0))], rowb0v0] Γ w0) {r : YSseglog_place_parts_1} (h : m_seglog_place_parts_1 Y sY b0v0 b0v1 b0v2 = some r) : Calls Tryz.prog 156 #[.func (.yield lY) #[] #[], (pq gb0)] w0 (Outc Γ [rowsY, [(gb0, .cells #[(pq gb0v0), .string b0v1, .int .i64 b0v2] 141 (0, 0))], rowb0v0] w0 (r_seglog_place_parts_1 J lY gb0 gb0v0 eb0v0 b0v0 rowb0v0 b0v1 b0v2 r)) := by
 refine calls_of (N := 80) (rs := []) (args := [.func (.yield lY) #[] #[], (pq gb0)]) Tryz.func156 rfl Tryz.ntmps156 Tryz.results156 rfl ?_
 obtain ⟨F, hF⟩ : ∃ F : Fm, F = ⟨ids [rowsY, [(gb0, .cells #[(pq gb0v0), .string b0v1, .int .i64 b0v2] 141 (0, 0))], rowb0v0], w0, Γ⟩ := ⟨_, rfl⟩
 refine WC.here (C := CC F Γ [rowsY, [(gb0, .cells #[(pq gb0v0), .string b0v1, .int .i64 b0v2] 141 (0, 0))], rowb0v0]) ?_ (hF ▸ hp.start)
 refine WC.rs (vb (q_fl 0 fld_141_0 rfl rfl rfl) (vb (q_ldl (i := 1) (v := (pq gb0v0)) rfl rfl Tryz.isAgg25 rfl rfl) ?_))
 obtain ⟨z1, hz2, h⟩ := bnd h
 refine e_call (is := [2]) rfl rfl (call_run Tryz.call157 rfl rfl (by kernel_rfl)) rfl (fun w hp => t_disk_Disk_Names hb0v0 hp hz2) ?_
 rintro Γ3 U5 v6 hl4 ⟨A7, c8, row9, rfl, rfl, hr10, _⟩
 change WR _ _ _ (CC F Γ3 [rowb0v0, row9, rowsY, [(gb0, .cells #[(pq gb0v0), .string b0v1, .int .i64 b0v2] 141 (0, 0))]]) _ _ (upd _ 16 (.slice A7 z1.length c8))
 refine vb (q_len_slice rfl Tryz.underlying133 rfl) (mv (v := .int .i64 0) ?_)
 refine WR.done ?_
 refine WC.block ?_
 refine WC.forI h (fun (i17 : Nat) (o13 : YSseglog_place_parts_1) σ w => ∃ (Γ11 : Gh), ∃ (row14 : Rowb), slots σ [(0, .func (.yield lY) #[] #[]), (1, (pq gb0)), (16, .slice A7 z1.length c8), (17, .int .i64 ((z1.length : Nat) : Int)), (18, .int .i64 ((i17 : Nat) : Int))] ∧ CC F Γ11 [rowb0v0, row9, row14, [(gb0, .cells #[(pq gb0v0), .string b0v1, .int .i64 b0v2] 141 (0, 0))]] w ∧ Gh.le Γ3 Γ11 ∧ YSseglog_place_parts_1.ob J Γ11 lY row14 o13 ∧ True) ?_ ?_
 ·
  intro w hw
  exact ⟨Γ3, rowsY, (sl_ (by kernel_rfl)), hw, (Gh.refl _), (hsY.mono hl4), trivial⟩
 rintro f16 i17 o13 σ w hi18 hlt19 hge20 ⟨Γ11, row14, hsl, hw, hl12, ho15, -⟩
 refine Wpt.slots hsl ?_
 refine WC.here (C := CC F Γ11 [rowb0v0, row9, row14, [(gb0, .cells #[(pq gb0v0), .string b0v1, .int .i64 b0v2] 141 (0, 0))]]) ?_ hw
 clear hw hsl
 refine WC.rs (vb (q_lss rfl rfl rfl) ?_)
 refine WR.done ?_
 refine WC.seq ?_
 refine WC.cond (b := (decide (((i17 : Nat) : Int) < ((z1.length : Nat) : Int)))) (by kernel_rfl) (fun hb21 => ?_) (fun hb21 => ?_)
 ·
  have hl22 := ilt hb21
  have h := hlt19 hl22
  refine WC.skip ?_
  change WC _ _ _ _ _ _
  refine WC.seq (WC.block (WC.rs (vb (q_ixn (i := i17) Tryz.underlying133 Tryz.sizeOf9 rfl rfl rfl hl22 ((hr10.mono hl12).some_ hl22)) (vb (q_ldo (c := 0) (v := .string (gt z1 i17)) (i := 1) rfl ((hr10.mono hl12).strT_at hl22).2 rfl Tryz.isAgg9 rfl rfl) (as_ (v := .string (gt z1 i17)) ?_)))))
  refine WR.done ?_
  refine WC.rs (mv (v := .string (gt z1 i17)) (vb (q_fl 1 fld_141_1 rfl rfl rfl) (vb (q_ldl (i := 3) (v := .string b0v1) rfl rfl Tryz.isAgg9 rfl rfl) (vb (q_sadd rfl rfl rfl hb0v1 (show (⟨#[46]⟩ : ByteArray).size ≤ lim by decide)) ?_))))
  obtain ⟨hk23, h⟩ := chk_some h
  obtain ⟨z24, hz25, h⟩ := bnd h
  refine vc rfl rfl rfl (q_call (call_run Tryz.call158 rfl rfl (by kernel_rfl)) (fun w hw => t_strings_CutPrefix (Γ := Gh.all w) (gt z1 i17) ((hr10.mono hl12).strT_at hl22).1 (b0v1 ++ (⟨#[46]⟩ : ByteArray)) (of_decide_eq_true hk23) (Sat.all w) hz25)) (mv (v := .tuple #[.string z24.1, .bool z24.2]) (vb (q_extract (v := .string z24.1) rfl rfl rfl) (vb (q_extract (v := .bool z24.2) rfl rfl rfl) (as_ (v := .string z24.1) (as_ (v := .bool z24.2) ?_)))))
  refine WR.done ?_
  refine WC.rs (mv (v := .string z24.1) ?_)
  obtain ⟨hk26, h⟩ := chk_some h
  obtain ⟨z27, hz28, h⟩ := bnd h
  refine vc rfl rfl rfl (q_call (call_run Tryz.call159 rfl rfl (by kernel_rfl)) (fun w hw => t_strings_Cut (Γ := Gh.all w) z24.1 (of_decide_eq_true hk26) (Sat.all w) hz28)) (mv (v := .tuple #[.string z27.1, .string z27.2.1, .bool z27.2.2]) (vb (q_extract (v := .string z27.1) rfl rfl rfl) (vb (q_extract (v := .string z27.2.1) rfl rfl rfl) (vb (q_extract (v := .bool z27.2.2) rfl rfl rfl) (as_ (v := .string z27.1) (as_ (v := .string z27.2.1) (as_ (v := .bool z27.2.2) ?_)))))))
  refine WR.done ?_
  refine WC.rs (mv (v := .string z27.1) ?_)
  obtain ⟨hk29, h⟩ := chk_some h
  obtain ⟨z30, hz31, h⟩ := bnd h
  refine vc rfl rfl rfl (q_call (call_run Tryz.call160 rfl rfl (by kernel_rfl)) (fun w hw => t_num_Read (Γ := Gh.all w) z27.1 (of_decide_eq_true hk29) (Sat.all w) hz31)) (mv (v := .tuple #[.int .i64 z30.1, .int .i64 z30.2]) (vb (q_extract (v := .int .i64 z30.1) rfl rfl rfl) (vb (q_extract (v := .int .i64 z30.2) rfl rfl rfl) (as_ (v := .int .i64 z30.1) (as_ (v := .int .i64 z30.2) ?_)))))
  refine WR.done ?_
  refine WC.rs (mv (v := .string z27.2.1) ?_)
  obtain ⟨hk32, h⟩ := chk_some h
  obtain ⟨z33, hz34, h⟩ := bnd h
  refine vc rfl rfl rfl (q_call (call_run Tryz.call160 rfl rfl (by kernel_rfl)) (fun w hw => t_num_Read (Γ := Gh.all w) z27.2.1 (of_decide_eq_true hk32) (Sat.all w) hz34)) (mv (v := .tuple #[.int .i64 z33.1, .int .i64 z33.2]) (vb (q_extract (v := .int .i64 z33.1) rfl rfl rfl) (vb (q_extract (v := .int .i64 z33.2) rfl rfl rfl) (as_ (v := .int .i64 z33.1) (as_ (v := .int .i64 z33.2) ?_)))))
  refine WR.done ?_
  refine WC.seq ?_
  refine WC.ofI (WCI.region ?_)
  refine WI.op (fun _ h => nomatch h) ?_
  refine mv (v := .bool z24.2) ?_
  refine WI.nx ?_
  refine WI.op (fun _ h => nomatch h) ?_
  refine mv (v := .bool z24.2) ?_
  refine WI.nx ?_
  refine WI.op (fun _ h => nomatch h) ?_
  refine vg1 rfl rfl rfl rfl rfl (fun hg35 => QV.qo (q_move (v := .bool z27.2.2) rfl (by kernel_rfl))) ?_
  refine WI.nx ?_
  refine WI.op (fun _ h => nomatch h) ?_
  refine vb (q_pick rfl rfl (pk_and' (g := z24.2) (y := z27.2.2))) ?_
  refine WI.nx ?_
  refine WI.op (fun _ h => nomatch h) ?_
  refine mv (v := .bool (z24.2 && z27.2.2)) ?_
  refine WI.nx ?_
  refine WI.op (fun _ h => nomatch h) ?_
  refine vg1 rfl rfl rfl rfl rfl (fun hg36 => QV.qo (q_move (v := .int .i64 z30.2) rfl (by kernel_rfl))) ?_
  refine WI.nx ?_
  refine WI.op (fun _ h => nomatch h) ?_
  refine vg1 rfl rfl rfl rfl rfl (fun hg37 => QV.qo (q_eql rfl (gu hg37 rfl) rfl)) ?_
  refine WI.nx ?_
  refine WI.op (fun _ h => nomatch h) ?_
  refine vb (q_pick rfl rfl (pk_and' (g := (z24.2 && z27.2.2)) (y := (z30.2 == 0)))) ?_
  refine WI.nx ?_
  refine WI.op (fun _ h => nomatch h) ?_
  refine mv (v := .bool ((z24.2 && z27.2.2) && (z30.2 == 0))) ?_
  refine WI.nx ?_
  refine WI.op (fun _ h => nomatch h) ?_
  refine vg1 rfl rfl rfl rfl rfl (fun hg38 => QV.qo (q_move (v := .int .i64 z33.2) rfl (by kernel_rfl))) ?_
  refine WI.nx ?_
  refine WI.op (fun _ h => nomatch h) ?_
  refine vg1 rfl rfl rfl rfl rfl (fun hg39 => QV.qo (q_eql rfl (gu hg39 rfl) rfl)) ?_
  refine WI.nx ?_
  refine WI.op (fun _ h => nomatch h) ?_
  refine vb (q_pick rfl rfl (pk_and' (g := ((z24.2 && z27.2.2) && (z30.2 == 0))) (y := (z33.2 == 0)))) ?_
  refine WI.nx ?_
  refine WI.op (fun _ h => nomatch h) ?_
  refine mv (v := .bool (((z24.2 && z27.2.2) && (z30.2 == 0)) && (z33.2 == 0))) ?_
  refine WI.nx ?_
  refine WI.op (fun _ h => nomatch h) ?_
  refine vg1 rfl rfl rfl rfl rfl (fun hg40 => QV.qo (q_move (v := .int .i64 z30.1) rfl (by kernel_rfl))) ?_
  refine WI.nx ?_
  refine WI.op (fun _ h => nomatch h) ?_
  refine vg1 rfl rfl rfl rfl rfl (fun hg41 => QV.qo (q_leq rfl (gu hg41 rfl) rfl)) ?_
  refine WI.nx ?_
  refine WI.op (fun _ h => nomatch h) ?_
  refine vb (q_pick rfl rfl (pk_and' (g := (((z24.2 && z27.2.2) && (z30.2 == 0)) && (z33.2 == 0))) (y := (decide (z30.1 ≤ 999999))))) ?_
  refine WI.nx ?_
  refine WI.op (fun _ h => nomatch h) ?_
  refine mv (v := .bool ((((z24.2 && z27.2.2) && (z30.2 == 0)) && (z33.2 == 0)) && (decide (z30.1 ≤ 999999)))) ?_
  refine WI.nx ?_
  refine WI.op (fun _ h => nomatch h) ?_
  refine vg1 rfl rfl rfl rfl rfl (fun hg42 => QV.qo (q_move (v := .int .i64 z33.1) rfl (by kernel_rfl))) ?_
  refine WI.nx ?_
  refine WI.op (fun _ h => nomatch h) ?_
  refine vg1 rfl rfl rfl rfl rfl (fun hg43 => QV.qo (q_geq rfl (gu hg43 rfl) rfl)) ?_
  refine WI.nx ?_
  refine WI.op (fun _ h => nomatch h) ?_
  refine vb (q_pick rfl rfl (pk_and' (g := ((((z24.2 && z27.2.2) && (z30.2 == 0)) && (z33.2 == 0)) && (decide (z30.1 ≤ 999999)))) (y := (decide (1 ≤ z33.1))))) ?_
  refine WI.nx ?_
  refine WI.op (fun _ h => nomatch h) ?_
  refine mv (v := .bool (((((z24.2 && z27.2.2) && (z30.2 == 0)) && (z33.2 == 0)) && (decide (z30.1 ≤ 999999))) && (decide (1 ≤ z33.1)))) ?_
  refine WI.nx ?_
  refine WI.op (fun _ h => nomatch h) ?_
  refine vg1 rfl rfl rfl rfl rfl (fun hg44 => QV.qo (q_move (v := .int .i64 z33.1) rfl (by kernel_rfl))) ?_
  refine WI.nx ?_
  refine WI.op (fun _ h => nomatch h) ?_
  refine vg1 rfl rfl rfl rfl rfl (fun hg45 => QV.qo (q_leq rfl (gu hg45 rfl) rfl)) ?_
  refine WI.nx ?_
  refine WI.op (fun _ h => nomatch h) ?_
  refine vb (q_pick rfl rfl (pk_and' (g := (((((z24.2 && z27.2.2) && (z30.2 == 0)) && (z33.2 == 0)) && (decide (z30.1 ≤ 999999))) && (decide (1 ≤ z33.1)))) (y := (decide (z33.1 ≤ 999999))))) ?_
  refine WI.nx ?_
  refine WI.op (fun _ h => nomatch h) ?_
  refine mv (v := .bool ((((((z24.2 && z27.2.2) && (z30.2 == 0)) && (z33.2 == 0)) && (decide (z30.1 ≤ 999999))) && (decide (1 ≤ z33.1))) && (decide (z33.1 ≤ 999999)))) ?_
  refine WI.nx ?_
  refine WI.op (fun _ h => nomatch h) ?_
  refine vg1 rfl rfl rfl rfl rfl (fun hg46 => QV.qo (q_move (v := .func (.yield lY) #[] #[]) rfl (by kernel_rfl))) ?_
  refine WI.nx ?_
  refine WI.op (fun _ h => nomatch h) ?_
  refine vg1 rfl rfl rfl rfl rfl (fun hg47 => QV.qo (q_move (v := .string (gt z1 i17)) rfl (by kernel_rfl))) ?_
  refine WI.nx ?_
  refine WI.op (fun _ h => nomatch h) ?_
  refine vg1 rfl rfl rfl rfl rfl (fun hg48 => QV.qo (q_move (v := .int .i64 z30.1) rfl (by kernel_rfl))) ?_
  refine WI.nx ?_
  refine WI.op (fun _ h => nomatch h) ?_
  refine vg1 rfl rfl rfl rfl rfl (fun hg49 => QV.qo (q_move (v := .int .i64 z33.1) rfl (by kernel_rfl))) ?_
  refine WI.nx ?_
  refine WI.op (fun _ h => nomatch h) ?_
  refine vg1 rfl rfl rfl rfl rfl (fun hg50 => QV.qo (q_build' (v := .agg #[.int .i64 z30.1, .int .i64 z33.1]) rfl (bargs2 (gu hg50 rfl) (gu hg50 rfl)) (fun w => by kernel_rfl))) ?_
  refine WI.nx ?_
  refine (Bool.eq_false_or_eq_true ((((((z24.2 && z27.2.2) && (z30.2 == 0)) && (z33.2 == 0)) && (decide (z30.1 ≤ 999999))) && (decide (1 ≤ z33.1))) && (decide (z33.1 ≤ 999999)))).elim (fun hb51 => ?_) (fun hb51 => ?_)
  ·
   have h := bt hb51 h
   refine WI.sat (c0 := true) (g := ((((((z24.2 && z27.2.2) && (z30.2 == 0)) && (z33.2 == 0)) && (decide (z30.1 ≤ 999999))) && (decide (1 ≤ z33.1))) && (decide (z33.1 ≤ 999999)))) rfl rfl rfl hb51 ?_
   obtain ⟨hk52, h⟩ := chk_some h
   obtain ⟨hk53, h⟩ := chk_some h
   obtain ⟨z54, hz55, h⟩ := bnd h
   refine WI.yield (is := [2]) rfl rfl (fun _ h => nomatch h) (yield_run rfl (gu hb51 rfl) (args2 (gu hb51 rfl) (gu hb51 rfl))) rfl (fun w hp => hY (gt z1 i17) ((hr10.mono hl12).strT_at hl22).1 z30.1 (i64b_of hk52) z33.1 (i64b_of hk53) ho15 hp hz55) ?_
   rintro Γ56 U58 v59 hl57 ⟨row60, rfl, rfl, hr61⟩
   change WI _ _ _ _ (CC F Γ56 [row60, rowb0v0, row9, [(gb0, .cells #[(pq gb0v0), .string b0v1, .int .i64 b0v2] 141 (0, 0))]]) _ _ (upd _ 76 (.bool true))
   refine WI.sat (c0 := true) (g := ((((((z24.2 && z27.2.2) && (z30.2 == 0)) && (z33.2 == 0)) && (decide (z30.1 ≤ 999999))) && (decide (1 ≤ z33.1))) && (decide (z33.1 ≤ 999999)))) rfl rfl rfl hb51 ?_
   refine WI.op (fun _ h => nomatch h) ?_
   refine vb (q_not rfl rfl) ?_
   refine WI.nx ?_
   refine WI.op (fun _ h => nomatch h) ?_
   refine vb (q_pick_t (v := .bool (!true)) rfl rfl hb51 (by kernel_rfl)) ?_
   refine WI.nx ?_
   refine WI.nil ?_
   change WC _ _ _ _ _ _
   refine WC.cfk (b := (!true)) (by kernel_rfl) (nott rfl) ?_
   refine WC.skip ?_
   change WC _ _ _ _ _ _
   refine WC.region ?_
   refine vb (q_add_r (r := ((i17 + 1 : Nat) : Int)) rfl rfl rfl (ctr_len hl22 (hr10.mono hl12).le)) (mv (v := .int .i64 ((i17 + 1 : Nat) : Int)) ?_)
   refine WR.nil ?_
   intro w hw
   exact ⟨hl22, z54, h, Γ56, row60, (sl_ (by kernel_rfl)), (hw.only (is := [1, 1, 0, 0]) rfl), (hl12.trans hl57), hr61, trivial⟩
  ·
   have h := bf hb51 h
   refine WI.op (fun _ h => nomatch h) ?_
   refine WR.unsat (c0 := true) (g := ((((((z24.2 && z27.2.2) && (z30.2 == 0)) && (z33.2 == 0)) && (decide (z30.1 ≤ 999999))) && (decide (1 ≤ z33.1))) && (decide (z33.1 ≤ 999999)))) rfl rfl rfl hb51 rfl ?_
   refine WI.nx ?_
   refine WI.op (fun _ h => nomatch h) ?_
   refine WR.unsat (c0 := true) (g := ((((((z24.2 && z27.2.2) && (z30.2 == 0)) && (z33.2 == 0)) && (decide (z30.1 ≤ 999999))) && (decide (1 ≤ z33.1))) && (decide (z33.1 ≤ 999999)))) rfl rfl rfl hb51 rfl ?_
   refine WI.nx ?_
   refine WI.op (fun _ h => nomatch h) ?_
   refine vb (q_pick_f (v := .bool false) rfl rfl hb51 (by kernel_rfl)) ?_
   refine WI.nx ?_
   refine WI.nil ?_
   change WC _ _ _ _ _ _
   refine WC.cfk (b := false) (by kernel_rfl) rfl ?_
   refine WC.skip ?_
   change WC _ _ _ _ _ _
   refine WC.region ?_
   refine vb (q_add_r (r := ((i17 + 1 : Nat) : Int)) rfl rfl rfl (ctr_len hl22 (hr10.mono hl12).le)) (mv (v := .int .i64 ((i17 + 1 : Nat) : Int)) ?_)
   refine WR.nil ?_
   intro w hw
   exact ⟨hl22, o13, h, Γ11, row14, (sl_ (by kernel_rfl)), hw, hl12, ho15, trivial⟩
 ·
  have h := hge20 (ige hb21)
  refine WC.exit ?_
  intro w hw
  obtain rfl := Option.some.inj h
  subst hF
  exact end_e (is := [2, 2, 0]) (by kernel_rfl) hw rfl ⟨row14, rfl, rfl, ho15, trivial⟩
abbrev r_disk_Disk_Remove (gd : Nat) (ed : Nat) (r : Odisk_Disk × Int) (U : List Rowb) (Γ : Gh) (v : Value) : Prop := ∃ (rowd' : Rowb), v = .int .i64 r.2 ∧ U = [rowd'] ∧ Odisk_Disk.ob ed Γ gd rowd' r.1 ∧ I64 r.2 ∧ True
theorem t_disk_Disk_Remove {Γ : Gh} {w0 : World} {gd ed : Nat} {rowd : Rowb} {d : Odisk_Disk} (hd : Odisk_Disk.ob ed Γ gd rowd d) (name : ByteArray) (hname : name.size ≤ lim) (hp : Pre [rowd] Γ w0) {r : Odisk_Disk × Int} (h : m_disk_Disk_Remove d name = some r) : Calls Tryz.prog 123 #[(pq gd), .string name] w0 (Outc Γ [rowd] w0 (r_disk_Disk_Remove gd ed r)) := by
 refine calls_of (N := 16) (rs := [4]) (args := [(pq gd), .string name]) Tryz.func123 rfl Tryz.ntmps123 Tryz.results123 rfl ?_
 obtain ⟨F, hF⟩ : ∃ F : Fm, F = ⟨ids [rowd], w0, Γ⟩ := ⟨_, rfl⟩
 refine WC.here (C := CC F Γ [rowd]) ?_ (hF ▸ hp.start)
 refine WC.rs ?_
 refine e_box (v := .string name) rfl rfl rfl rfl (by kernel_rfl) ?_
 intro g1
 refine as_ (v := .int .i64 0) ?_
 refine WR.done ?_
 refine WC.seq (WC.rs (mv (v := (pq gd)) (vb (q_ldl (i := 0) (v := .string name) rfl rfl Tryz.isAgg9 rfl rfl) ?_)))
 obtain ⟨z2, hz3, h⟩ := bnd h
 refine vc rfl rfl rfl (q_call (call_run Tryz.call154 rfl rfl (by kernel_rfl)) (fun w hw => t_disk_Disk_there (Γ := Gh.all w) (hd.mono hw.sat.le_all) (hw.ra 1 rfl) name hname (Sat.all w) hz3)) (as_ (v := .int .i64 z2) ?_)
 refine WR.done ?_
 refine WC.rs (mv (v := .int .i64 z2) (vb (q_neq rfl rfl rfl) ?_))
 refine WR.done ?_
 refine WC.cif h (by kernel_rfl) (fun hb4 h => ?_) (fun hb4 h => ?_)
 ·
  refine WC.rs (mv (v := .int .i64 z2) (as_ (v := .int .i64 z2) ?_))
  refine WR.done ?_
  refine WC.ret ?_
  intro w hw
  obtain ⟨hk5, h⟩ := chk_some h
  obtain rfl := Option.some.inj h
  subst hF
  exact end_e (is := [1]) (by kernel_rfl) hw rfl ⟨rowd, rfl, rfl, hd, (i64b_of hk5), trivial⟩
 ·
  refine WC.skip ?_
  change WC _ _ _ _ _ _
  refine WC.rs (mv (v := (pq gd)) (vb (q_mkfn (v := .func (.func 161) #[] #[(pq g1)]) rfl (by kernel_rfl)) (vb (q_build' (v := .agg #[.func (.func 161) #[] #[(pq g1)], .string ByteArray.empty, .slice none 0 0]) rfl (bargs1 rfl) (fun w => by kernel_rfl)) ?_)))
  intro w hw; obtain ⟨Γ6, hw, hl7, hr8⟩ := hw.seal (i := 0) rfl
  have hg9 := hr8 _ (List.mem_singleton.2 rfl)
  refine WR.here (C := CC F Γ6 [[], rowd]) ?_ hw
  clear hw
  have hf10 : Cdisk_change_do.ok Γ6 none g1 (Cdisk_change_do.disk_Disk_Remove_1 name) := ⟨⟨hg9, hname⟩, trivial⟩
  obtain ⟨z11, hz12, h⟩ := bnd h
  refine e_call (is := [1]) rfl rfl (call_run Tryz.call149 rfl rfl (by kernel_rfl)) rfl (fun w hp => t_disk_Disk_done (hd.mono hl7) (Ac_2 := none) (cc_2 := 0) (⟨(Cdisk_change_do.disk_Disk_Remove_1 name), ByteArray.empty, []⟩ : Ddisk_change) ⟨hf10, (show (ByteArray.empty : ByteArray).size ≤ lim by decide), ⟨Nat.zero_le _, Sl.nil _ _ _⟩⟩ hp hz12) ?_
  rintro Γ13 U15 v16 hl14 ⟨row17, rfl, rfl, hr18, hr19, _⟩
  change WR _ _ _ (CC F Γ13 [row17, []]) _ _ (upd _ 15 (.int .i64 z11.2))
  refine as_ (v := .int .i64 z11.2) ?_
  refine WR.done ?_
  refine WC.ret ?_
  intro w hw
  obtain rfl := Option.some.inj h
  subst hF
  exact end_e (is := [0]) (by kernel_rfl) hw rfl ⟨row17, rfl, rfl, hr18, hr19, trivial⟩
def JRem (Γb : Gh) (l gl g3 fT : Nat) (caps : Array Value) (rowT : Rowb) (rec : Loop) (Γ : Gh) (row : Rowb) (s : YSseglog_place_parts_1) : Prop := ∃ (A : Option Addr) (c : Nat) (rowo : Rowb), Γb.le Γ ∧ row = ([[(l, .loop rec)], [(gl, .cells #[.slice A s.length c] 133 (0, 0))], rowo, [(g3, .cells #[.func (.func fT) #[] caps] 148 (0, 0))], rowT] : List Rowb).flatten ∧ Own strT Γ 9 rowo A c s
theorem t_seglog_place_parts {Γ : Gh} {w0 : World} {gd : Nat} {name : ByteArray} {gen : Int} (hp : Pre [] Γ w0) : Calls Tryz.prog 122 #[.agg #[(pq gd), .string name, .int .i64 gen]] w0 (Outc Γ [] w0 (fun U Δ v => ∃ g1 : Nat, v = .func (.func 156) #[] #[(pq g1)] ∧ U = [[(g1, .cells #[(pq gd), .string name, .int .i64 gen] 141 (0, 0))]])) := by
 refine calls_of (N := 4) (rs := [2]) (args := [.agg #[(pq gd), .string name, .int .i64 gen]]) Tryz.func122 rfl Tryz.ntmps122 Tryz.results122 rfl ?_
 obtain ⟨F, hF⟩ : ∃ F : Fm, F = ⟨ids [], w0, Γ⟩ := ⟨_, rfl⟩
 refine WC.here (C := CC F Γ []) ?_ (hF ▸ hp.start)
 refine WC.rs ?_
 refine e_box (v := .agg #[(pq gd), .string name, .int .i64 gen]) rfl rfl rfl rfl (by kernel_rfl) ?_
 intro g1
 refine as_ (v := .nilFunc) ?_
 refine WR.nil ?_
 change WC _ _ _ _ _ _
 refine WC.rs (vb (q_mkfn (v := .func (.func 156) #[] #[(pq g1)]) rfl (by kernel_rfl)) (as_ (v := .func (.func 156) #[] #[(pq g1)]) ?_))
 refine WR.nil ?_
 change WC _ _ _ _ _ _
 refine WC.ret ?_
 intro w hw
 subst hF
 exact end_e (is := [0]) (by kernel_rfl) hw rfl ⟨g1, rfl, rfl⟩
set_option maxRecDepth 100000 in
set_option maxHeartbeats 800000 in
theorem t_seglog_place_remove {Γ : Gh} {w0 : World} {gd ed : Nat} {rowd : Rowb} {d : Odisk_Disk} (hd : Odisk_Disk.ob ed Γ gd rowd d) (name : ByteArray) (hname : name.size ≤ lim) (gen : Int) (hgen : I64 gen) {fT : Nat} {caps : Array Value} {rowT : Rowb} (pred : Int → Int → Option Bool)
  (hT : ∀ {Γ2 : Gh} {w : World} (x : Int) (hx : I64 x) (y : Int) (hy : I64 y), Γ.le Γ2 → Pre [rowT] Γ2 w → ∀ {q : Bool}, pred x y = some q → Calls Tryz.prog fT (#[.int .i64 x, .int .i64 y] ++ caps) w (fun e w' => e = .returned (.bool q) ∧ Fr no w w'))
  (eT : ∀ (args : Array Value) (w : World), (callFunc fT args).run Tryz.prog w = .ok (.enter fT args) w) (hp : Pre [rowd, rowT] Γ w0) {r : Odisk_Disk} (h : m_seglog_place_remove d name gen pred = some r) :
  Calls Tryz.prog 88 #[.agg #[(pq gd), .string name, .int .i64 gen], .func (.func fT) #[] caps] w0 (Outc Γ [rowd, rowT] w0 (fun U Δ v => ∃ rowd', v = .tuple #[] ∧ U = [rowd', rowT] ∧ Odisk_Disk.ob ed Δ gd rowd' r)) := by
 obtain ⟨z, hz, h⟩ := bnd h
 refine calls_of2 (n := 34) (rs := []) (args := [.agg #[(pq gd), .string name, .int .i64 gen], .func (.func fT) #[] caps]) Tryz.func88 rfl Tryz.ntmps88 Tryz.results88 rfl ?_
 obtain ⟨F, hF⟩ : ∃ F : Fm, F = ⟨ids [rowd, rowT], w0, Γ⟩ := ⟨_, rfl⟩
 refine WC2.here (C := CC F Γ [rowd, rowT]) ?_ (hF ▸ hp.start)
 refine WC2.seq ?_
 refine WC.region ?_
 refine e_box (v := .agg #[(pq gd), .string name, .int .i64 gen]) rfl rfl rfl rfl (by kernel_rfl) ?_
 intro g2
 refine e_box (v := .func (.func fT) #[] caps) rfl rfl rfl rfl (by kernel_rfl) ?_
 intro g3
 refine WR.nil ?_
 change WC2 _ _ _ _ _ _
 refine WC2.seq ?_
 refine WC.region ?_
 refine e_alloc Tryz.zeroValue133 rfl rfl rfl rfl ?_
 intro gl
 refine WR.nil ?_
 change WC2 _ _ _ _ _ _
 refine WC2.seq3 ?_
 refine WC.region ?_
 refine vb (q_ldla (i := 2) (vs := [(pq gd), .string name, .int .i64 gen]) rfl rfl Tryz.isAgg141 Tryz.sizeOf141 rfl rfl) ?_
 refine e_call (is := []) rfl rfl (call_run Tryz.call122 rfl rfl (by kernel_rfl)) rfl (fun w hp => t_seglog_place_parts (gd := gd) (name := name) (gen := gen) hp) ?_
 rintro Γ1 U1 v1 hl1 ⟨g1, rfl, rfl⟩
 change WR _ _ _ (CC F Γ1 [[(g1, .cells #[(pq gd), .string name, .int .i64 gen] 141 (0, 0))], [(gl, .cells #[.slice none 0 0] 133 (0, 0))], [(g3, .cells #[.func (.func fT) #[] caps] 148 (0, 0))], [(g2, .cells #[(pq gd), .string name, .int .i64 gen] 141 (0, 0))], rowd, rowT]) _ _ (upd _ 10 (.func (.func 156) #[] #[(pq g1)]))
 refine WR.nil ?_
 change WC3 _ _ _ _ _ _ _
 refine WC3.rangeF (n := 34) (gf := 156) (lb := #[(pq g1)]) (by kernel_rfl) Tryz.call156 ?_
 intro l D rec w hst hpe hps has hbo hagr hw
 have hY : ∀ {Γa : Gh} {w : World} {row : Rowb} {s s' : YSseglog_place_parts_1} (y0_ : ByteArray) (hy0_ : y0_.size ≤ lim) (y1_0 : Int) (hy1_0 : I64 y1_0) (y1_1 : Int) (hy1_1 : I64 y1_1) (hs : YSseglog_place_parts_1.ob (JRem Γ l gl g3 fT caps rowT rec) Γa l row s) (hp : Pre [row] Γa w) (h : m_seglog_parts_y pred s y0_ y1_0 y1_1 = some s'),
   YieldAt (FR none) 0 Tryz.prog l #[.string y0_, .agg #[.int .i64 y1_0, .int .i64 y1_1]] w (Outc Γa [row] w fun U Δ v => ∃ row' : Rowb, v = .bool true ∧ U = [row'] ∧ YSseglog_place_parts_1.ob (JRem Γ l gl g3 fT caps rowT rec) Δ l row' s') := by
  intro Γa w row s s' f hf x hx y hy hs hp h
  obtain ⟨q, hq, h⟩ := bnd h
  obtain ⟨Γ', hle, Ao, co, rowo, hgb, rfl, ho⟩ := hs
  have hgb := hgb.trans hle
  have ho := ho.mono hle
  refine YieldAt.mono (R := Outc Γa [[(l, .loop rec)], [(gl, .cells #[.slice Ao s.length co] 133 (0, 0))], rowo, [(g3, .cells #[.func (.func fT) #[] caps] 148 (0, 0))], rowT] w fun U Δ v => ∃ A2 c2 row2, v = .bool true ∧ U = [[(l, .loop rec)], [(gl, .cells #[.slice A2 s'.length c2] 133 (0, 0))], row2, [(g3, .cells #[.func (.func fT) #[] caps] 148 (0, 0))], rowT] ∧ Own strT Δ 9 row2 A2 c2 s') ?_ ?_
  ·
   refine yield_of has hbo hp.parts hst hpe (by rw [hps]; rfl) (N := ⟨34, []⟩) (σ1 := _) (by rw [hps]; exact hagr.par2 rfl rfl) ?_
   intro F hF
   refine WCI.rs ?_
   refine WI.op (fun _ h => nomatch h) ?_
   refine as_ (v := .string f) ?_
   refine WI.nx ?_
   refine WI.done ?_
   refine WCI.region ?_
   refine WI.op (fun _ h => nomatch h) ?_
   refine e_alloc Tryz.zeroValue188 rfl rfl rfl rfl ?_
   intro g6
   refine WI.nx ?_
   refine WI.op (fun _ h => nomatch h) ?_
   refine e_st (i := 0) (v := .agg #[.int .i64 x, .int .i64 y]) (new := #[.int .i64 x, .int .i64 y]) rfl Tryz.sizeOf188 rfl rfl rfl rfl (by kernel_rfl) rfl rfl rfl rfl ?_
   refine WI.nx ?_
   refine WI.nil ?_
   intro w hw
   have hw : Cur F Γa ([(l, .loop rec)] :: [[(g6, .cells #[.int .i64 x, .int .i64 y] 188 (0, 0))], [(gl, .cells #[.slice Ao s.length co] 133 (0, 0))], rowo, [(g3, .cells #[.func (.func fT) #[] caps] 148 (0, 0))], rowT]) w := hw.permL (List.Perm.swap _ _ _)
   refine ⟨Γa, _, hw, ?_⟩
   refine WCI.block ?_
   refine WCI.rs ?_
   refine WI.op (fun _ h => nomatch h) ?_
   refine vb (q_ldl (i := 4) (v := .func (.func fT) #[] caps) rfl rfl Tryz.isAgg148 rfl rfl) ?_
   refine WI.nx ?_
   refine WI.op (fun _ h => nomatch h) ?_
   refine vb (q_ixa_ (0) Tryz.underlying188 Tryz.sizeOf2 rfl rfl rfl rfl rfl) ?_
   refine WI.nx ?_
   refine WI.op (fun _ h => nomatch h) ?_
   refine vb (q_ldl (i := 1) (v := .int .i64 x) rfl rfl Tryz.isAgg2 rfl rfl) ?_
   refine WI.nx ?_
   refine WI.op (fun _ h => nomatch h) ?_
   refine vb (q_ixa_ (1) Tryz.underlying188 Tryz.sizeOf2 rfl rfl rfl rfl rfl) ?_
   refine WI.nx ?_
   refine WI.op (fun _ h => nomatch h) ?_
   refine vb (q_ldl (i := 1) (v := .int .i64 y) rfl rfl Tryz.isAgg2 rfl rfl) ?_
   refine WI.nx ?_
   refine WI.op (fun _ h => nomatch h) ?_
   refine vc rfl rfl rfl (q_call (v := .bool q) (call_run_fv (caps := caps) (args := #[.int .i64 x, .int .i64 y] ++ caps) eT rfl (by kernel_rfl) (by kernel_rfl)) (fun w hw => (by exact hT x hx y hy hgb (hw.only (is := [5]) rfl).pre hq))) ?_
   refine WI.nx ?_
   refine WI.done ?_
   refine WCI.cond (b := q) (by kernel_rfl) (fun hb => ?_) (fun hb => ?_)
   ·
    have h := bt hb h
    obtain ⟨hk, h⟩ := chk_some h
    obtain rfl := Option.some.inj h
    refine WCI.region ?_
    refine WI.op (fun _ h => nomatch h) ?_
    refine vb (q_ldl (i := 2) (v := .slice Ao s.length co) rfl rfl Tryz.isAgg133 rfl rfl) ?_
    refine WI.nx ?_
    refine WI.op (fun _ h => nomatch h) ?_
    refine mv (v := .string f) ?_
    refine WI.nx ?_
    refine WI.op (fun _ h => nomatch h) ?_
    refine e_buildSlice (cs := #[.string f]) (e := 9) rfl rfl rfl rfl (fun w => by kernel_rfl) ?_
    intro gb
    refine WI.nx ?_
    refine WI.op (fun _ h => nomatch h) ?_
    refine e_append (T := strT) (xs := s) (ys := [f]) elem_133 (i := 4) rfl rfl rfl rfl rfl rfl rfl ho (of_decide_eq_true hk) (fun w hw => src_one (T := strT) (y := f) (i := 0) rfl (by exact ⟨rfl, hf⟩) hw) ?_
    intro row2 A2 c2 ho2
    refine WI.nx ?_
    refine WI.op (fun _ h => nomatch h) ?_
    refine e_st (i := 3) (v := .slice A2 (s ++ [f]).length c2) (new := #[.slice A2 (s ++ [f]).length c2]) rfl Tryz.sizeOf133 rfl rfl rfl rfl (by kernel_rfl) rfl rfl rfl rfl ?_
    refine WI.nx ?_
    refine WI.nil ?_
    intro w hw
    exact ⟨Γa, _, hw.only (is := [1, 2, 2, 2, 2]) rfl, A2, c2, row2, rfl, rfl, ho2⟩
   ·
    have h := bf hb h
    obtain rfl := Option.some.inj h
    refine WCI.skip ?_
    intro w hw
    exact ⟨Γa, _, hw.only (is := [0, 1, 1, 1, 1]) rfl, Ao, co, rowo, rfl, rfl, ho⟩
  ·
   rintro e w2 ⟨v, rfl, Δ, U, he, A2, c2, row2, rfl, rfl, ho2⟩
   exact ⟨_, rfl, Δ, _, he.glue, _, rfl, rfl, YS.of ⟨A2, c2, row2, hgb.trans he.le, rfl, ho2⟩⟩
 have hw := hw.pad
 have h2 := hw.fold (is := [1, 3, 0, 2, 4]) rfl rfl
 have h3 : Cur F Γ1 ([([[(l, .loop rec)], [(gl, .cells #[.slice none 0 0] 133 (0, 0))], [], [(g3, .cells #[.func (.func fT) #[] caps] 148 (0, 0))], rowT] : List Rowb).flatten, [(g1, .cells #[(pq gd), .string name, .int .i64 gen] 141 (0, 0))], rowd] ++ [[(D, .deferred (some []))], [(g2, .cells #[(pq gd), .string name, .int .i64 gen] 141 (0, 0))]]) w := h2.pick (is := [0, 1, 2]) rfl
 refine (t_seglog_place_parts_1 (J := JRem Γ l gl g3 fT caps rowT rec) (Y := m_seglog_parts_y pred) (lY := l) (sY := []) hY (YS.of ⟨none, 0, [], hl1, rfl, Own.nil _ _ _⟩) (hd.mono hl1) name hname gen hgen (h2.only (is := [0, 1, 2]) rfl).pre hz).mono ?_
 rintro e w' ⟨v, rfl, Δ, U', he, rowY', rfl, rfl, hJ', -⟩
 have h4 := h3.eff he
 obtain ⟨Γ', hle, A', c', rowo', -, hrow, ho'⟩ := hJ'
 have ho' := ho'.mono hle
 have h5 := h4.unfold (i := 0) rfl hrow
 have hd' := (hd.mono hl1).mono he.le
 refine ⟨_, rfl, Δ, [[(gl, .cells #[.slice A' z.length c'] 133 (0, 0))], rowo', rowT, rowd, [(g2, .cells #[(pq gd), .string name, .int .i64 gen] 141 (0, 0))]], h5.only (is := [0, 6, 0, 0, 1, 2, 2]) rfl, ?_⟩
 refine WC2.of ?_
 refine WC.rs (vb (q_ldl (i := 1) (v := .slice A' z.length c') rfl rfl Tryz.isAgg133 rfl rfl) (vb (q_len_slice rfl Tryz.underlying133 rfl) (mv (v := .int .i64 0) ?_)))
 refine WR.nil ?_
 change WC _ _ _ _ _ _
 refine WC.block ?_
 refine WC.forI h (fun (i : Nat) (x : Odisk_Disk) σ w => ∃ (Γ2 : Gh) (rowd2 : Rowb), slots σ [(2, (pq g2)), (23, .slice A' z.length c'), (24, .int .i64 ((z.length : Nat) : Int)), (25, .int .i64 ((i : Nat) : Int))] ∧ CC F Γ2 [[(D, .deferred (some []))], [(gl, .cells #[.slice A' z.length c'] 133 (0, 0))], rowo', rowT, rowd2, [(g2, .cells #[(pq gd), .string name, .int .i64 gen] 141 (0, 0))]] w ∧ Gh.le Δ Γ2 ∧ Odisk_Disk.ob ed Γ2 gd rowd2 x ∧ True) ?_ ?_
 ·
  intro w hw
  exact ⟨Δ, rowd, (sl_ (by kernel_rfl)), hw, (Gh.refl _), hd', trivial⟩
 rintro f11 i x σ w hi13 hlt14 hge15 ⟨Γ2, rowd2, hsl, hw, hl5, hd2, -⟩
 refine Wpt.slots hsl ?_
 refine WC.here (C := CC F Γ2 [[(D, .deferred (some []))], [(gl, .cells #[.slice A' z.length c'] 133 (0, 0))], rowo', rowT, rowd2, [(g2, .cells #[(pq gd), .string name, .int .i64 gen] 141 (0, 0))]]) ?_ hw
 clear hw hsl
 refine WC.rs (vb (q_lss rfl rfl rfl) ?_)
 refine WR.nil ?_
 change WC _ _ _ _ _ _
 refine WC.seq ?_
 refine WC.cond (b := (decide (((i : Nat) : Int) < ((z.length : Nat) : Int)))) (by kernel_rfl) (fun hb16 => ?_) (fun hb16 => ?_)
 ·
  have hl17 := ilt hb16
  have h := hlt14 hl17
  refine WC.skip ?_
  change WC _ _ _ _ _ _
  refine WC.seq (WC.block (WC.rs (vb (q_ixn (i := i) Tryz.underlying133 Tryz.sizeOf9 rfl rfl rfl hl17 ((ho'.mono hl5).some_ hl17)) (vb (q_ldo (c := 0) (v := .string (gt z i)) (i := 2) rfl ((ho'.mono hl5).strT_at hl17).2 rfl Tryz.isAgg9 rfl rfl) (as_ (v := .string (gt z i)) ?_)))))
  refine WR.nil ?_
  change WC _ _ _ _ _ _
  refine WC.region ?_
  refine vb (q_fl 0 fld_141_0 rfl rfl rfl) (vb (q_ldl (i := 5) (v := (pq gd)) rfl rfl Tryz.isAgg25 rfl rfl) (mv (v := .string (gt z i)) ?_))
  obtain ⟨y, hy, h⟩ := bnd h
  refine e_call (is := [4]) rfl rfl (call_run Tryz.call123 rfl rfl (by kernel_rfl)) rfl (fun w hp => t_disk_Disk_Remove hd2 (gt z i) ((ho'.mono hl5).strT_at hl17).1 hp hy) ?_
  rintro Γ3 U3 v3 hl3 ⟨rowd3, rfl, rfl, hd3, hr3, -⟩
  change WR _ _ _ (CC F Γ3 [rowd3, [(D, .deferred (some []))], [(gl, .cells #[.slice A' z.length c'] 133 (0, 0))], rowo', rowT, [(g2, .cells #[(pq gd), .string name, .int .i64 gen] 141 (0, 0))]]) _ _ (upd _ 32 (.int .i64 y.2))
  refine WR.nil ?_
  change WC _ _ _ _ _ _
  refine WC.region ?_
  refine vb (q_add_r (r := ((i + 1 : Nat) : Int)) rfl rfl rfl (ctr_len hl17 ho'.le)) (mv (v := .int .i64 ((i + 1 : Nat) : Int)) ?_)
  refine WR.nil ?_
  intro w hw
  exact ⟨hl17, y.1, h, Γ3, rowd3, (sl_ (by kernel_rfl)), hw.only (is := [1, 1, 1, 1, 0, 0]) rfl, hl5.trans hl3, hd3, trivial⟩
 ·
  have h := hge15 (ige hb16)
  obtain rfl := Option.some.inj h
  refine WC.exit ?_
  intro w hw
  subst hF
  exact end_2n (N := ⟨34, []⟩) (is := [3, 2]) (by kernel_rfl) hw rfl ⟨rowd2, rfl, rfl, hd2⟩
abbrev r_seglog_Open_1 (gb0 : Nat) (b0v : Int) (r : Bool) (U : List Rowb) (Γ : Gh) (v : Value) : Prop := v = .bool r ∧ U = [[(gb0, .cells #[.int .i64 b0v] 2 (0, 0))]] ∧ True
theorem t_seglog_Open_1 {Γ : Gh} {w0 : World} (g_ : Int) (hg_ : I64 g_) (a1 : Int) (ha1 : I64 a1) {gb0 : Nat} (b0v : Int) (hb0v : I64 b0v) (hp : Pre [[(gb0, .cells #[.int .i64 b0v] 2 (0, 0))]] Γ w0) {r : Bool} (h : m_seglog_Open_1 g_ a1 b0v = some r) : Calls Tryz.prog 89 #[.int .i64 g_, .int .i64 a1, (pq gb0)] w0 (Outc Γ [[(gb0, .cells #[.int .i64 b0v] 2 (0, 0))]] w0 (r_seglog_Open_1 gb0 b0v r)) := by
 refine calls_of (N := 9) (rs := [5]) (args := [.int .i64 g_, .int .i64 a1, (pq gb0)]) Tryz.func89 rfl Tryz.ntmps89 Tryz.results89 rfl ?_
 obtain ⟨F, hF⟩ : ∃ F : Fm, F = ⟨ids [[(gb0, .cells #[.int .i64 b0v] 2 (0, 0))]], w0, Γ⟩ := ⟨_, rfl⟩
 refine WC.here (C := CC F Γ [[(gb0, .cells #[.int .i64 b0v] 2 (0, 0))]]) ?_ (hF ▸ hp.start)
 refine WC.rs (as_ (v := .bool false) ?_)
 refine WR.done ?_
 refine WC.rs (mv (v := .int .i64 g_) (vb (q_ldl (i := 0) (v := .int .i64 b0v) rfl rfl Tryz.isAgg2 rfl rfl) (vb (q_neq rfl rfl rfl) (as_ (v := .bool (g_ != b0v)) ?_))))
 refine WR.done ?_
 refine WC.ret ?_
 intro w hw
 obtain rfl := Option.some.inj h
 subst hF
 exact end_e (is := [0]) (by kernel_rfl) hw rfl ⟨rfl, rfl, trivial⟩
theorem t_num_Digits {Γ : Gh} {w0 : World} (n : Int) (hn : I64 n) (hs : Sat Γ w0) {r : ByteArray} (h : m_num_Digits n = some r) : Calls Tryz.prog 31 #[.int .i64 n] w0 (fun e w' => e = .returned (.string r) ∧ Fr no w0 w') := by
 refine calls_of (N := 37) (rs := [2]) (args := [.int .i64 n]) Tryz.func31 rfl Tryz.ntmps31 Tryz.results31 rfl ?_
 obtain ⟨F, hF⟩ : ∃ F : Fm, F = ⟨no, w0, Γ⟩ := ⟨_, rfl⟩
 refine WC.here (C := CC F Γ []) ?_ (hF ▸ Cur.start0 hs)
 refine WC.rs (as_ (v := .string ByteArray.empty) ?_)
 refine WR.done ?_
 refine WC.rs ?_
 refine e_alloc Tryz.zeroValue111 rfl rfl rfl rfl ?_
 intro g1
 have ho2 : Own byteT Γ 111 [(g1, .cells #[.int .u8 0, .int .u8 0, .int .u8 0, .int .u8 0, .int .u8 0, .int .u8 0, .int .u8 0, .int .u8 0, .int .u8 0, .int .u8 0, .int .u8 0, .int .u8 0, .int .u8 0, .int .u8 0, .int .u8 0, .int .u8 0, .int .u8 0, .int .u8 0, .int .u8 0, .int .u8 0] 111 (0, 0))] (some ⟨g1, 0, none⟩) 20 (List.replicate 20 (b8 0)) := own_zero (T := byteT) 20 [.int .u8 0] (b8 0) rfl (by show [Value.int .u8 0] = [Value.int .u8 _]; rw [b8_val (by decide)]) (by decide)
 refine WR.done ?_
 refine WC.rs (as_ (v := .int .i64 20) ?_)
 refine WR.done ?_
 refine WC.rs (mv (v := .int .i64 n) (vb (q_conv Tryz.underlying82 Tryz.underlying2 rfl rfl) (as_ (v := .int .u64 (wu64 n)) ?_)))
 refine WR.done ?_
 refine WC.cut (fun σ w => ∃ (u_3 : Int), m_num_Digits_j1 n u_3 = some r ∧ slots σ [(0, .int .i64 n), (3, (pq g1)), (4, .int .i64 20), (5, .int .u64 u_3)] ∧ CC F Γ [[(g1, .cells #[.int .u8 0, .int .u8 0, .int .u8 0, .int .u8 0, .int .u8 0, .int .u8 0, .int .u8 0, .int .u8 0, .int .u8 0, .int .u8 0, .int .u8 0, .int .u8 0, .int .u8 0, .int .u8 0, .int .u8 0, .int .u8 0, .int .u8 0, .int .u8 0, .int .u8 0, .int .u8 0] 111 (0, 0))]] w ∧ U64 u_3 ∧ True) ?_ ?_
 ·
  refine WC.rs (mv (v := .int .i64 n) (vb (q_lss rfl rfl rfl) ?_))
  refine WR.done ?_
  refine WC.cif h (by kernel_rfl) (fun hb5 h => ?_) (fun hb5 h => ?_)
  ·
   refine WC.region ?_
   refine mv (v := .int .u64 (wu64 n)) (vb (q_neg rfl rfl) (as_ (v := .int .u64 (wu64 (0 - (wu64 n)))) ?_))
   refine WR.nil ?_
   intro w hw
   exact ⟨(wu64 (0 - (wu64 n))), h, (sl_ (by kernel_rfl)), hw, (wu64_r _), trivial⟩
  ·
   refine WC.skip ?_
   intro w hw
   exact ⟨(wu64 n), h, (sl_ (by kernel_rfl)), hw, (wu64_r _), trivial⟩
 ·
  rintro σ w ⟨u_3, h, hsl, hw, hr4, -⟩
  refine Wpt.slots hsl ?_
  refine WC.here (C := CC F Γ [[(g1, .cells #[.int .u8 0, .int .u8 0, .int .u8 0, .int .u8 0, .int .u8 0, .int .u8 0, .int .u8 0, .int .u8 0, .int .u8 0, .int .u8 0, .int .u8 0, .int .u8 0, .int .u8 0, .int .u8 0, .int .u8 0, .int .u8 0, .int .u8 0, .int .u8 0, .int .u8 0, .int .u8 0] 111 (0, 0))]]) ?_ hw
  clear hw hsl
  refine WC.seq (WC.block ?_)
  refine WC.loopN h (fun (s : Int × Int × (List UInt8)) σ w => match s with | (at_6, u_8, x10) => ∃ (row11 : Rowb), slots σ [(0, .int .i64 n), (3, (pq g1)), (4, .int .i64 at_6), (5, .int .u64 u_8)] ∧ CC F Γ [row11] w ∧ I64 at_6 ∧ U64 u_8 ∧ x10.length = 20 ∧ Own byteT Γ 111 row11 (some ⟨g1, 0, none⟩) 20 x10 ∧ True) ?_ ?_
  ·
   intro w hw
   exact ⟨[(g1, .cells #[.int .u8 0, .int .u8 0, .int .u8 0, .int .u8 0, .int .u8 0, .int .u8 0, .int .u8 0, .int .u8 0, .int .u8 0, .int .u8 0, .int .u8 0, .int .u8 0, .int .u8 0, .int .u8 0, .int .u8 0, .int .u8 0, .int .u8 0, .int .u8 0, .int .u8 0, .int .u8 0] 111 (0, 0))], (sl_ (by kernel_rfl)), hw, (show I64 20 by decide), hr4, List.length_replicate, ho2, trivial⟩
  rintro f14 ⟨at_6, u_8, x10⟩ σ w h ⟨row11, hsl, hw, hr7, hr9, hn13, ho12, -⟩
  refine Wpt.slots hsl ?_
  refine WC.here (C := CC F Γ [row11]) ?_ hw
  clear hw hsl
  refine WC.seq (WC.rs (mv (v := .int .i64 at_6) (vb (q_eql rfl rfl rfl) (mv (v := .bool (at_6 == 20)) (vg0 rfl rfl rfl rfl rfl (fun hg18 => QV.qo (q_move (v := .int .u64 u_8) rfl (by kernel_rfl))) (vg0 rfl rfl rfl rfl rfl (fun hg19 => QV.qo (q_gtr rfl (gu hg19 rfl) rfl)) (vb (q_pick rfl rfl (pk_or' (g := (at_6 == 20)) (y := (decide (0 < u_8))))) ?_)))))))
  refine WR.done ?_
  refine WC.cif h (by kernel_rfl) (fun hb20 h => ?_) (fun hb20 h => ?_)
  ·
   refine WC.skip ?_
   change WC _ _ _ _ _ _
   refine WC.block (WC.rs (mv (v := .int .i64 at_6) (vb (q_sub rfl rfl rfl) (as_ (v := .int .i64 (w64 (at_6 - 1))) ?_))))
   refine WR.done ?_
   refine WC.rs (mv (v := .int .i64 (w64 (at_6 - 1))) (mv (v := .int .u64 u_8) (vb (q_rem rfl rfl rfl (by decide)) (vb (q_add rfl rfl rfl) (vb (q_conv Tryz.underlying5 Tryz.underlying82 rfl rfl) ?_)))))
   obtain ⟨hk21, h⟩ := chk_some h
   refine vb (q_ixao Tryz.underlying111 Tryz.sizeOf5 rfl rfl rfl hk21) ?_
   refine e_store_own (T := byteT) (q := (w64 (at_6 - 1)).toNat) (v := .int .u8 (wu8 (wu64 (48 + (u_8.tmod 10))))) (y := (b8 (wu8 (wu64 (48 + (u_8.tmod 10)))))) rfl rfl rfl rfl (by kernel_rfl) Tryz.sizeOf5 (by exact (by show [Value.int .u8 (wu8 (wu64 (48 + (u_8.tmod 10))))] = [Value.int .u8 _]; rw [b8_val (wu8_r _)])) (i := 0) rfl ho12 (ltq (inb_lt hk21) hn13.symm) ?_
   intro row22 ho23
   refine WR.done ?_
   refine WC.region ?_
   refine mv (v := .int .u64 u_8) (vb (q_quo rfl rfl rfl (by decide)) (as_ (v := .int .u64 (wu64 (u_8.tdiv 10))) ?_))
   refine WR.nil ?_
   intro w hw
   exact ⟨((w64 (at_6 - 1)), (wu64 (u_8.tdiv 10)), (List.set x10 ((w64 (at_6 - 1)).toNat) (b8 (wu8 (wu64 (48 + (u_8.tmod 10))))))), h, row22, (sl_ (by kernel_rfl)), hw, (w64_r _), (wu64_r _), (List.length_set.trans hn13), ho23, trivial⟩
  ·
   refine WC.exit ?_
   change WC _ _ _ _ _ _
   refine WC.cut (fun σ w => ∃ (at_24 : Int), ∃ (x26 : List UInt8), ∃ (row27 : Rowb), m_num_Digits_j3 at_24 x26 = some r ∧ slots σ [(3, (pq g1)), (4, .int .i64 at_24)] ∧ CC F Γ [row27] w ∧ I64 at_24 ∧ x26.length = 20 ∧ Own byteT Γ 111 row27 (some ⟨g1, 0, none⟩) 20 x26 ∧ True) ?_ ?_
   ·
    refine WC.rs (mv (v := .int .i64 n) (vb (q_lss rfl rfl rfl) ?_))
    refine WR.done ?_
    refine WC.cif h (by kernel_rfl) (fun hb30 h => ?_) (fun hb30 h => ?_)
    ·
     refine WC.rs (mv (v := .int .i64 at_6) (vb (q_sub rfl rfl rfl) (as_ (v := .int .i64 (w64 (at_6 - 1))) ?_)))
     refine WR.done ?_
     refine WC.region ?_
     refine mv (v := .int .i64 (w64 (at_6 - 1))) ?_
     obtain ⟨hk31, h⟩ := chk_some h
     refine vb (q_ixao Tryz.underlying111 Tryz.sizeOf5 rfl rfl rfl hk31) ?_
     refine e_store_own (T := byteT) (q := (w64 (at_6 - 1)).toNat) (v := .int .u8 45) (y := (b8 45)) rfl rfl rfl rfl (by kernel_rfl) Tryz.sizeOf5 (by exact (by show [Value.int .u8 45] = [Value.int .u8 _]; rw [b8_val (by decide)])) (i := 0) rfl ho12 (ltq (inb_lt hk31) hn13.symm) ?_
     intro row32 ho33
     refine WR.nil ?_
     intro w hw
     exact ⟨(w64 (at_6 - 1)), (List.set x10 ((w64 (at_6 - 1)).toNat) (b8 45)), row32, h, (sl_ (by kernel_rfl)), hw, (w64_r _), (List.length_set.trans hn13), ho33, trivial⟩
    ·
     refine WC.skip ?_
     intro w hw
     exact ⟨at_6, x10, row11, h, (sl_ (by kernel_rfl)), hw, hr7, hn13, ho12, trivial⟩
   ·
    rintro σ w ⟨at_24, x26, row27, h, hsl, hw, hr25, hn29, ho28, -⟩
    refine Wpt.slots hsl ?_
    refine WC.here (C := CC F Γ [row27]) ?_ hw
    clear hw hsl
    refine WC.rs (mv (v := .int .i64 at_24) ?_)
    obtain ⟨hk34, h⟩ := chk_some h
    refine vb (q_slarr_from (lo := at_24.toNat) (xs := x26) Tryz.underlying111 Tryz.sizeOf5 rfl rfl (inle_eq rfl hk34) hn29 (inle_le hk34)) (vb (q_bstrs (i := 0) (lo := at_24.toNat) rfl (ho28) Tryz.underlying77 Tryz.underlying5 Tryz.underlying9 rfl rfl (Nat.le_of_eq hn29)) (as_ (v := .string (⟨(List.drop at_24.toNat x26).toArray⟩ : ByteArray)) ?_))
    refine WR.done ?_
    refine WC.ret ?_
    intro w hw
    obtain rfl := Option.some.inj h
    subst hF
    exact ⟨by kernel_rfl, hw.fr⟩
theorem t_seglog_place_file {Γ : Gh} {w0 : World} {gp__0 : Nat} (p__1 : ByteArray) (hp__1 : p__1.size ≤ lim) (p__2 : Int) (hp__2 : I64 p__2) (gen : Int) (hgen : I64 gen) (part : Int) (hpart : I64 part) (hs : Sat Γ w0) {r : ByteArray} (h : m_seglog_place_file p__1 p__2 gen part = some r) : Calls Tryz.prog 124 #[.agg #[(pq gp__0), .string p__1, .int .i64 p__2], .int .i64 gen, .int .i64 part] w0 (fun e w' => e = .returned (.string r) ∧ Fr no w0 w') := by
 refine calls_of (N := 17) (rs := [6]) (args := [.agg #[(pq gp__0), .string p__1, .int .i64 p__2], .int .i64 gen, .int .i64 part]) Tryz.func124 rfl Tryz.ntmps124 Tryz.results124 rfl ?_
 obtain ⟨F, hF⟩ : ∃ F : Fm, F = ⟨no, w0, Γ⟩ := ⟨_, rfl⟩
 refine WC.here (C := CC F Γ []) ?_ (hF ▸ Cur.start0 hs)
 refine WC.rs ?_
 refine e_box (v := .agg #[(pq gp__0), .string p__1, .int .i64 p__2]) rfl rfl rfl rfl (by kernel_rfl) ?_
 intro g1
 refine as_ (v := .string ByteArray.empty) ?_
 refine WR.done ?_
 refine WC.seq ?_
 refine WC.dr (by kernel_rfl) (by kernel_rfl) (fun w hw => hw.drawn _) ?_
 refine wa rfl rfl rfl (q_fl 1 fld_141_1 rfl rfl rfl) (wa rfl rfl rfl (q_ldl (i := 0) (v := .string p__1) rfl rfl Tryz.isAgg9 rfl rfl) (wa rfl rfl rfl (q_sadd rfl rfl rfl hp__1 (show (⟨#[46]⟩ : ByteArray).size ≤ lim by decide)) (wa rfl rfl rfl (q_move (v := .int .i64 gen) rfl (by kernel_rfl)) ?_)))
 obtain ⟨z2, hz3, h⟩ := bnd h
 refine wc rfl rfl rfl (q_call (call_run Tryz.call31 rfl rfl (by kernel_rfl)) (fun w hw => t_num_Digits (Γ := Gh.all w) gen hgen (Sat.all w) hz3)) ?_
 obtain ⟨hk4, h⟩ := chk_some h
 obtain ⟨hk5, h⟩ := chk_some h
 refine wa rfl rfl rfl (q_sadd rfl rfl rfl (of_decide_eq_true hk4) (of_decide_eq_true hk5)) ?_
 obtain ⟨hk6, h⟩ := chk_some h
 refine wa rfl rfl rfl (q_sadd rfl rfl rfl (of_decide_eq_true hk6) (show (⟨#[46]⟩ : ByteArray).size ≤ lim by decide)) (wa rfl rfl rfl (q_move (v := .int .i64 part) rfl (by kernel_rfl)) ?_)
 obtain ⟨z7, hz8, h⟩ := bnd h
 refine wc rfl rfl rfl (q_call (call_run Tryz.call31 rfl rfl (by kernel_rfl)) (fun w hw => t_num_Digits (Γ := Gh.all w) part hpart (Sat.all w) hz8)) ?_
 obtain ⟨hk9, h⟩ := chk_some h
 obtain ⟨hk10, h⟩ := chk_some h
 refine wa rfl rfl rfl (q_sadd rfl rfl rfl (of_decide_eq_true hk9) (of_decide_eq_true hk10)) (wa rfl rfl rfl (q_assign (v := .string ((((p__1 ++ (⟨#[46]⟩ : ByteArray)) ++ z2) ++ (⟨#[46]⟩ : ByteArray)) ++ z7)) rfl (by kernel_rfl)) ?_)
 refine WQ.nil ?_
 change WC _ _ _ _ _ _
 refine WC.ret ?_
 intro w hw
 obtain rfl := Option.some.inj h
 subst hF
 exact ⟨by kernel_rfl, hw.fr⟩
abbrev r_seglog_Log_scan (gl : Nat) (el : Nat × Nat) (edk0 : Nat) (r : Oseglog_Log × Odisk_Disk × (List (List UInt8))) (U : List Rowb) (Γ : Gh) (v : Value) : Prop := ∃ (rowl' : Rowb), ∃ (rowdk0' : Rowb), ∃ (A0 : Option Addr), ∃ (c0 : Nat), ∃ (row0 : Rowb), v = .slice A0 r.2.2.length c0 ∧ U = [rowl', rowdk0', row0] ∧ Oseglog_Log.ob el Γ gl rowl' r.1 ∧ Odisk_Disk.ob edk0 Γ el.2 rowdk0' r.2.1 ∧ Own (slT byteT) Γ 77 row0 A0 c0 r.2.2 ∧ True
theorem t_seglog_Log_scan {Γ : Gh} {w0 : World} {gl : Nat} {el : Nat × Nat} {rowl : Rowb} {l : Oseglog_Log} (hl : Oseglog_Log.ob el Γ gl rowl l) {edk0 : Nat} {rowdk0 : Rowb} {dk0 : Odisk_Disk} (hdk0 : Odisk_Disk.ob edk0 Γ el.2 rowdk0 dk0) (hp : Pre [rowl, rowdk0] Γ w0) {r : Oseglog_Log × Odisk_Disk × (List (List UInt8))} (h : m_seglog_Log_scan l dk0 = some r) : Calls Tryz.prog 90 #[(pq gl)] w0 (Outc Γ [rowl, rowdk0] w0 (r_seglog_Log_scan gl el edk0 r)) := by
 refine calls_of (N := 92) (rs := [2]) (args := [(pq gl)]) Tryz.func90 rfl Tryz.ntmps90 Tryz.results90 rfl ?_
 obtain ⟨F, hF⟩ : ∃ F : Fm, F = ⟨ids [rowl, rowdk0], w0, Γ⟩ := ⟨_, rfl⟩
 refine WC.here (C := CC F Γ [rowl, rowdk0]) ?_ (hF ▸ hp.start)
 refine WC.rs (as_ (v := .slice none 0 0) ?_)
 refine WR.done ?_
 refine WC.rs (as_ (v := .slice none 0 0) ?_)
 refine WR.done ?_
 refine WC.cut (fun σ w => ∃ (out_3 : List (List UInt8)), ∃ (o8 : Oseglog_Log), ∃ (o11 : Odisk_Disk), ∃ (Γ1 : Gh), ∃ (A4 : Option Addr), ∃ (c5 : Nat), ∃ (row6 : Rowb), ∃ (row9 : Rowb), ∃ (row12 : Rowb), m_seglog_Log_scan_j1 out_3 o8 o11 = some r ∧ slots σ [(0, (pq gl)), (3, .slice A4 out_3.length c5)] ∧ CC F Γ1 [row6, row9, row12] w ∧ Gh.le Γ Γ1 ∧ Own (slT byteT) Γ1 77 row6 A4 c5 out_3 ∧ Oseglog_Log.ob el Γ1 gl row9 o8 ∧ Odisk_Disk.ob edk0 Γ1 el.2 row12 o11 ∧ True) ?_ ?_
 ·
  refine WC.rs (as_ (v := .bool true) ?_)
  refine WR.done ?_
  refine WC.block ?_
  refine WC.loopN h (fun (s : (List (List UInt8)) × Bool × Oseglog_Log × Odisk_Disk) σ w => match s with | (out_16, whole_21, o22, o25) => ∃ (Γ14 : Gh), ∃ (A17 : Option Addr), ∃ (c18 : Nat), ∃ (row19 : Rowb), ∃ (row23 : Rowb), ∃ (row26 : Rowb), slots σ [(0, (pq gl)), (3, .slice A17 out_16.length c18), (4, .bool whole_21)] ∧ CC F Γ14 [row19, row23, row26] w ∧ Gh.le Γ Γ14 ∧ Own (slT byteT) Γ14 77 row19 A17 c18 out_16 ∧ Oseglog_Log.ob el Γ14 gl row23 o22 ∧ Odisk_Disk.ob edk0 Γ14 el.2 row26 o25 ∧ True) ?_ ?_
  ·
   intro w hw
   have hw := hw.pad
   exact ⟨Γ, none, 0, [], rowl, rowdk0, (sl_ (by kernel_rfl)), hw, (Gh.refl _), (Own.nil (slT byteT) _ 77), hl, hdk0, trivial⟩
  rintro f28 ⟨out_16, whole_21, o22, o25⟩ σ w h ⟨Γ14, A17, c18, row19, row23, row26, hsl, hw, hl15, ho20, ho24, ho27, -⟩
  refine Wpt.slots hsl ?_
  refine WC.here (C := CC F Γ14 [row19, row23, row26]) ?_ hw
  clear hw hsl
  refine WC.seq (WC.rs (mv (v := .bool whole_21) (mv (v := .bool whole_21) (vg1 rfl rfl rfl rfl rfl (fun hg32 => QV.qo (q_move (v := (pq gl)) rfl (by kernel_rfl))) (vg1 rfl rfl rfl rfl rfl (fun hg33 => QV.qo (q_nil (A := some ⟨gl, 0, none⟩) rfl (gu hg33 rfl) rfl)) (vg1 rfl rfl rfl rfl rfl (fun hg34 => QV.qo (q_fl 4 fld_150_2 rfl (gu hg34 rfl) rfl)) ?_))))))
  have hq := ho24
  obtain ⟨hrow_36, ho0_36, ho1_36, ho2_36, ho3_36, ho4_36, ho5_36, ho6_36, -⟩ := hq
  intro w hw; have hw := hw.unfold (i := 1) rfl hrow_36
  refine WR.here (C := CC F Γ14 [[(gl, .cells #[.pointer (some ⟨el.2, 0, none⟩), .string o22.place_name, .int .i64 o22.place_gen, .int .i64 o22.size, .int .i64 o22.last, .int .i64 o22.tail, .int .i64 o22.count, .int .i64 o22.bytes] el.1 (0, 0))], row19, row26]) ?_ hw
  clear hw
  refine vg1 rfl rfl rfl rfl rfl (fun hg37 => QV.qo (q_ldl (i := 0) (v := .int .i64 o22.last) rfl rfl Tryz.isAgg2 (gu hg37 rfl) rfl)) (vg1 rfl rfl rfl rfl rfl (fun hg38 => QV.qo (q_lss rfl (gu hg38 rfl) rfl)) (vb (q_pick rfl rfl (pk_and' (g := whole_21) (y := (decide (o22.last < 999999))))) ?_))
  refine WR.done ?_
  refine WC.cif h (by kernel_rfl) (fun hb39 h => ?_) (fun hb39 h => ?_)
  ·
   refine WC.skip ?_
   change WC _ _ _ _ _ _
   refine WC.block (WC.seq ?_)
   refine WC.dr (by kernel_rfl) (by kernel_rfl) (fun w hw => hw.drawn _) ?_
   refine wa rfl rfl rfl (q_move (v := (pq gl)) rfl (by kernel_rfl)) (wa rfl rfl rfl (q_nil (A := some ⟨gl, 0, none⟩) rfl rfl rfl) (wa rfl rfl rfl (q_fl 0 fld_150_0 rfl rfl rfl) (wa rfl rfl rfl (q_ldla (i := 0) (vs := [.pointer (some ⟨el.2, 0, none⟩), .string o22.place_name, .int .i64 o22.place_gen]) rfl rfl Tryz.isAgg141 Tryz.sizeOf141 rfl rfl) (wa rfl rfl rfl (q_move (v := (pq gl)) rfl (by kernel_rfl)) (wa rfl rfl rfl (q_nil (A := some ⟨gl, 0, none⟩) rfl rfl rfl) (wa rfl rfl rfl (q_fl 0 fld_150_0 rfl rfl rfl) (wa rfl rfl rfl (q_fl 2 fld_141_2 rfl rfl rfl) ?_)))))))
   refine wa rfl rfl rfl (q_ldl (i := 0) (v := .int .i64 o22.place_gen) rfl rfl Tryz.isAgg2 rfl rfl) (wa rfl rfl rfl (q_move (v := (pq gl)) rfl (by kernel_rfl)) (wa rfl rfl rfl (q_nil (A := some ⟨gl, 0, none⟩) rfl rfl rfl) (wa rfl rfl rfl (q_fl 4 fld_150_2 rfl rfl rfl) (wa rfl rfl rfl (q_ldl (i := 0) (v := .int .i64 o22.last) rfl rfl Tryz.isAgg2 rfl rfl) (wa rfl rfl rfl (q_add rfl rfl rfl) ?_)))))
   obtain ⟨z40, hz41, h⟩ := bnd h
   refine wc rfl rfl rfl (q_call (call_run Tryz.call124 rfl rfl (by kernel_rfl)) (fun w hw => t_seglog_place_file (Γ := Gh.all w) (gp__0 := el.2) o22.place_name ho0_36 o22.place_gen ho1_36 o22.place_gen ho1_36 (w64 (o22.last + 1)) (w64_r _) (Sat.all w) hz41)) (wa rfl rfl rfl (q_assign (v := .string z40) rfl (by kernel_rfl)) ?_)
   refine WQ.nil ?_
   change WC _ _ _ _ _ _
   refine WC.rs (mv (v := (pq gl)) (vb (q_nil (A := some ⟨gl, 0, none⟩) rfl rfl rfl) (vb (q_fl 0 fld_150_0 rfl rfl rfl) (vb (q_fl 0 fld_141_0 rfl rfl rfl) (vb (q_ldl (i := 0) (v := .pointer (some ⟨el.2, 0, none⟩)) rfl rfl Tryz.isAgg25 rfl rfl) (mv (v := .string z40) ?_))))))
   obtain ⟨hk42, h⟩ := chk_some h
   obtain ⟨z43, hz44, h⟩ := bnd h
   refine e_call (is := [2]) rfl rfl (call_run Tryz.call39 rfl rfl (by kernel_rfl)) rfl (fun w hp => t_disk_Disk_Read ho27 z40 (of_decide_eq_true hk42) hp hz44) ?_
   rintro Γ45 U47 v48 hl46 ⟨A49, c50, row51, rfl, rfl, hr52, _⟩
   change WR _ _ _ (CC F Γ45 [row26, row51, [(gl, .cells #[.pointer (some ⟨el.2, 0, none⟩), .string o22.place_name, .int .i64 o22.place_gen, .int .i64 o22.size, .int .i64 o22.last, .int .i64 o22.tail, .int .i64 o22.count, .int .i64 o22.bytes] el.1 (0, 0))], row19]) _ _ (upd _ 41 (.tuple #[.slice A49 z43.1.length c50, .bool z43.2]))
   refine mv (v := .tuple #[.slice A49 z43.1.length c50, .bool z43.2]) (vb (q_extract (v := .slice A49 z43.1.length c50) rfl rfl rfl) (vb (q_extract (v := .bool z43.2) rfl rfl rfl) (as_ (v := .slice A49 z43.1.length c50) (as_ (v := .bool z43.2) ?_))))
   refine WR.done ?_
   refine WC.seq (WC.rs (mv (v := .bool z43.2) (vb (q_not rfl rfl) ?_)))
   refine WR.done ?_
   refine WC.cif h (by kernel_rfl) (fun hb53 h => ?_) (fun hb53 h => ?_)
   ·
    refine WC.exit ?_
    intro w hw
    have hw := hw.fold (is := [2]) rfl hrow_36
    exact ⟨out_16, o22, o25, Γ45, A17, c18, row19, row23, row26, h, (sl_ (by kernel_rfl)), (hw.only (is := [3, 0, 0]) rfl), (hl15.trans hl46), (ho20.mono hl46), (ho24.mono hl46), (ho27.mono hl46), trivial⟩
   ·
    refine WC.skip ?_
    change WC _ _ _ _ _ _
    refine WC.rs (mv (v := .slice A49 z43.1.length c50) ?_)
    have hc59 := hr52.capz
    intro w hw; obtain ⟨Γ55, hw, hl56, hr57⟩ := hw.seal (i := 1) rfl; have hs58 := hr52.sl hl56 hr57
    refine WR.here (C := CC F Γ55 [row26, [], [(gl, .cells #[.pointer (some ⟨el.2, 0, none⟩), .string o22.place_name, .int .i64 o22.place_gen, .int .i64 o22.size, .int .i64 o22.last, .int .i64 o22.tail, .int .i64 o22.count, .int .i64 o22.bytes] el.1 (0, 0))], row19]) ?_ hw
    clear hw
    obtain ⟨z60, hz61, h⟩ := bnd h
    refine e_call (is := []) rfl rfl (call_run Tryz.call119 rfl rfl (by kernel_rfl)) rfl (fun w hp => t_frame_All hs58 hc59 hp hz61) ?_
    rintro Γ62 U64 v65 hl63 ⟨A66, c67, row68, rfl, rfl, hr69, hr70, hr71, _⟩
    change WR _ _ _ (CC F Γ62 [row68, row26, [], [(gl, .cells #[.pointer (some ⟨el.2, 0, none⟩), .string o22.place_name, .int .i64 o22.place_gen, .int .i64 o22.size, .int .i64 o22.last, .int .i64 o22.tail, .int .i64 o22.count, .int .i64 o22.bytes] el.1 (0, 0))], row19]) _ _ (upd _ 48 (.tuple #[.slice A66 z60.1.length c67, .int .i64 z60.2.1, .int .i64 z60.2.2]))
    refine mv (v := .tuple #[.slice A66 z60.1.length c67, .int .i64 z60.2.1, .int .i64 z60.2.2]) (vb (q_extract (v := .slice A66 z60.1.length c67) rfl rfl rfl) (vb (q_extract (v := .int .i64 z60.2.1) rfl rfl rfl) (vb (q_extract (v := .int .i64 z60.2.2) rfl rfl rfl) (as_ (v := .slice A66 z60.1.length c67) (as_ (v := .int .i64 z60.2.1) (as_ (v := .int .i64 z60.2.2) ?_))))))
    refine WR.done ?_
    refine WC.rs (mv (v := .int .i64 z60.2.1) (mv (v := .slice A49 z43.1.length c50) (vb (q_len_slice rfl Tryz.underlying77 rfl) (vb (q_eql rfl rfl rfl) (as_ (v := .bool (z60.2.1 == ((z43.1.length : Nat) : Int))) ?_)))))
    refine WR.done ?_
    refine WC.rs (mv (v := (pq gl)) (vb (q_nil (A := some ⟨gl, 0, none⟩) rfl rfl rfl) (vb (q_fl 0 fld_150_0 rfl rfl rfl) (vb (q_ldla (i := 3) (vs := [.pointer (some ⟨el.2, 0, none⟩), .string o22.place_name, .int .i64 o22.place_gen]) rfl rfl Tryz.isAgg141 Tryz.sizeOf141 rfl rfl) (mv (v := .string z40) (mv (v := .int .i64 z60.2.1) ?_))))))
    obtain ⟨z72, hz73, h⟩ := bnd h
    refine e_call (is := [1]) rfl rfl (call_run Tryz.call86 rfl rfl (by kernel_rfl)) rfl (fun w hp => t_seglog_place_shorten (gp__0 := el.2) o22.place_name ho0_36 o22.place_gen ho1_36 z40 (of_decide_eq_true hk42) z60.2.1 hr70 (ho27.mono ((hl46.trans hl56).trans hl63)) hp hz73) ?_
    rintro Γ74 U76 v77 hl75 ⟨row78, rfl, rfl, hr79, _⟩
    change WR _ _ _ (CC F Γ74 [row78, row68, [], [(gl, .cells #[.pointer (some ⟨el.2, 0, none⟩), .string o22.place_name, .int .i64 o22.place_gen, .int .i64 o22.size, .int .i64 o22.last, .int .i64 o22.tail, .int .i64 o22.count, .int .i64 o22.bytes] el.1 (0, 0))], row19]) _ _ (upd _ 62 (.tuple #[]))
    refine WR.done ?_
    refine WC.rs (mv (v := .slice A17 out_16.length c18) (mv (v := .slice A66 z60.1.length c67) ?_))
    obtain ⟨hk80, h⟩ := chk_some h
    refine e_append (T := (slT byteT)) (xs := out_16) (ys := z60.1) elem_103 (i := 4) rfl rfl rfl rfl rfl rfl rfl (ho20.mono (((hl46.trans hl56).trans hl63).trans hl75)) (of_decide_eq_true hk80) (fun w hw => src_own (i := 1) rfl (hr69.mono hl75) hw) ?_
    intro row81 A82 c83 ho84
    refine as_ (v := .slice A82 (out_16 ++ z60.1).length c83) ?_
    refine WR.done ?_
    refine WC.rs (mv (v := (pq gl)) (mv (v := (pq gl)) (mv (v := (pq gl)) (vb (q_nil (A := some ⟨gl, 0, none⟩) rfl rfl rfl) (vb (q_fl 4 fld_150_2 rfl rfl rfl) (vb (q_ldl (i := 3) (v := .int .i64 o22.last) rfl rfl Tryz.isAgg2 rfl rfl) (vb (q_add rfl rfl rfl) ?_)))))))
    refine mv (v := .int .i64 z60.2.1) (vb (q_nil (A := some ⟨gl, 0, none⟩) rfl rfl rfl) (vb (q_fl 4 fld_150_2 rfl rfl rfl) ?_))
    refine e_st (i := 3) (v := .int .i64 (w64 (o22.last + 1))) (new := #[.pointer (some ⟨el.2, 0, none⟩), .string o22.place_name, .int .i64 o22.place_gen, .int .i64 o22.size, .int .i64 (w64 (o22.last + 1)), .int .i64 o22.tail, .int .i64 o22.count, .int .i64 o22.bytes]) rfl Tryz.sizeOf2 rfl rfl rfl rfl (by kernel_rfl) rfl rfl rfl rfl ?_
    refine vb (q_nil (A := some ⟨gl, 0, none⟩) rfl rfl rfl) (vb (q_fl 5 fld_150_3 rfl rfl rfl) ?_)
    refine e_st (i := 3) (v := .int .i64 z60.2.1) (new := #[.pointer (some ⟨el.2, 0, none⟩), .string o22.place_name, .int .i64 o22.place_gen, .int .i64 o22.size, .int .i64 (w64 (o22.last + 1)), .int .i64 z60.2.1, .int .i64 o22.count, .int .i64 o22.bytes]) rfl Tryz.sizeOf3 rfl rfl rfl rfl (by kernel_rfl) rfl rfl rfl rfl ?_
    refine WR.done ?_
    refine WC.region ?_
    refine mv (v := (pq gl)) (vb (q_nil (A := some ⟨gl, 0, none⟩) rfl rfl rfl) (vb (q_fl 7 fld_150_5 rfl rfl rfl) (vb (q_ldl (i := 3) (v := .int .i64 o22.bytes) rfl rfl Tryz.isAgg3 rfl rfl) (mv (v := .int .i64 z60.2.1) (vb (q_add rfl rfl rfl) (vb (q_nil (A := some ⟨gl, 0, none⟩) rfl rfl rfl) (vb (q_fl 7 fld_150_5 rfl rfl rfl) ?_)))))))
    refine e_st (i := 3) (v := .int .i64 (w64 (o22.bytes + z60.2.1))) (new := #[.pointer (some ⟨el.2, 0, none⟩), .string o22.place_name, .int .i64 o22.place_gen, .int .i64 o22.size, .int .i64 (w64 (o22.last + 1)), .int .i64 z60.2.1, .int .i64 o22.count, .int .i64 (w64 (o22.bytes + z60.2.1))]) rfl Tryz.sizeOf3 rfl rfl rfl rfl (by kernel_rfl) rfl rfl rfl rfl ?_
    refine WR.nil ?_
    intro w hw
    obtain ⟨row_85, hrow_85, hob_85⟩ : ∃ rw : Rowb, rw = ([[(gl, .cells #[.pointer (some ⟨el.2, 0, none⟩), .string o22.place_name, .int .i64 o22.place_gen, .int .i64 o22.size, .int .i64 (w64 (o22.last + 1)), .int .i64 z60.2.1, .int .i64 o22.count, .int .i64 (w64 (o22.bytes + z60.2.1))] el.1 (0, 0))]] : List Rowb).flatten ∧ Oseglog_Log.ob el Γ74 gl rw (⟨o22.place_name, o22.place_gen, o22.size, (w64 (o22.last + 1)), z60.2.1, o22.count, (w64 (o22.bytes + z60.2.1))⟩ : Oseglog_Log) := ⟨_, rfl, rfl, ho0_36, ho1_36, ho2_36, (w64_r _), hr70, ho5_36, (w64_r _), trivial⟩
    have hw := hw.fold (is := [3]) rfl hrow_85
    exact ⟨((out_16 ++ z60.1), (z60.2.1 == ((z43.1.length : Nat) : Int)), (⟨o22.place_name, o22.place_gen, o22.size, (w64 (o22.last + 1)), z60.2.1, o22.count, (w64 (o22.bytes + z60.2.1))⟩ : Oseglog_Log), z72), h, Γ74, A82, c83, row81, row_85, row78, (sl_ (by kernel_rfl)), (hw.only (is := [4, 0, 0]) rfl), ((((hl15.trans hl46).trans hl56).trans hl63).trans hl75), ho84, hob_85, hr79, trivial⟩
  ·
   refine WC.exit ?_
   intro w hw
   have hw := hw.fold (is := [0]) rfl hrow_36
   exact ⟨out_16, o22, o25, Γ14, A17, c18, row19, row23, row26, h, (sl_ (by kernel_rfl)), (hw.only (is := [1, 0, 0]) rfl), hl15, ho20, ho24, ho27, trivial⟩
 ·
  rintro σ w ⟨out_3, o8, o11, Γ1, A4, c5, row6, row9, row12, h, hsl, hw, hl2, ho7, ho10, ho13, -⟩
  refine Wpt.slots hsl ?_
  refine WC.here (C := CC F Γ1 [row6, row9, row12]) ?_ hw
  clear hw hsl
  refine WC.rs (mv (v := (pq gl)) (mv (v := .slice A4 out_3.length c5) (vb (q_len_slice rfl Tryz.underlying103 rfl) (vb (q_nil (A := some ⟨gl, 0, none⟩) rfl rfl rfl) (vb (q_fl 6 fld_150_4 rfl rfl rfl) ?_)))))
  have hq := ho10
  obtain ⟨hrow_87, ho0_87, ho1_87, ho2_87, ho3_87, ho4_87, ho5_87, ho6_87, -⟩ := hq
  intro w hw; have hw := hw.unfold (i := 1) rfl hrow_87
  refine WR.here (C := CC F Γ1 [[(gl, .cells #[.pointer (some ⟨el.2, 0, none⟩), .string o8.place_name, .int .i64 o8.place_gen, .int .i64 o8.size, .int .i64 o8.last, .int .i64 o8.tail, .int .i64 o8.count, .int .i64 o8.bytes] el.1 (0, 0))], row6, row12]) ?_ hw
  clear hw
  refine e_st (i := 0) (v := .int .i64 ((out_3.length : Nat) : Int)) (new := #[.pointer (some ⟨el.2, 0, none⟩), .string o8.place_name, .int .i64 o8.place_gen, .int .i64 o8.size, .int .i64 o8.last, .int .i64 o8.tail, .int .i64 ((out_3.length : Nat) : Int), .int .i64 o8.bytes]) rfl Tryz.sizeOf3 rfl rfl rfl rfl (by kernel_rfl) rfl rfl rfl rfl ?_
  refine WR.done ?_
  refine WC.rs (mv (v := .slice A4 out_3.length c5) (as_ (v := .slice A4 out_3.length c5) ?_))
  refine WR.done ?_
  refine WC.ret ?_
  intro w hw
  obtain ⟨row_88, hrow_88, hob_88⟩ : ∃ rw : Rowb, rw = ([[(gl, .cells #[.pointer (some ⟨el.2, 0, none⟩), .string o8.place_name, .int .i64 o8.place_gen, .int .i64 o8.size, .int .i64 o8.last, .int .i64 o8.tail, .int .i64 ((out_3.length : Nat) : Int), .int .i64 o8.bytes] el.1 (0, 0))]] : List Rowb).flatten ∧ Oseglog_Log.ob el Γ1 gl rw (⟨o8.place_name, o8.place_gen, o8.size, o8.last, o8.tail, ((out_3.length : Nat) : Int), o8.bytes⟩ : Oseglog_Log) := ⟨_, rfl, rfl, ho0_87, ho1_87, ho2_87, ho3_87, ho4_87, (len_r ho7.le), ho6_87, trivial⟩
  have hw := hw.fold (is := [0]) rfl hrow_88
  obtain rfl := Option.some.inj h
  subst hF
  exact end_e (is := [0, 1, 0]) (by kernel_rfl) hw rfl ⟨row_88, row12, A4, c5, row6, rfl, rfl, hob_88, ho13, ho7, trivial⟩
abbrev r_seglog_Open_2 (gb0 : Nat) (gb0v : Nat) (eb0v : Nat × Nat) (b0v : Oseglog_Log) (rowb0v : Rowb) (r : Bool) (U : List Rowb) (Γ : Gh) (v : Value) : Prop := v = .bool r ∧ U = [[(gb0, .cells #[.pointer (some ⟨gb0v, 0, none⟩)] 102 (0, 0))], rowb0v] ∧ True
theorem t_seglog_Open_2 {Γ : Gh} {w0 : World} (a0 : Int) (ha0 : I64 a0) (n : Int) (hn : I64 n) {gb0 : Nat} {gb0v : Nat} {eb0v : Nat × Nat} {rowb0v : Rowb} {b0v : Oseglog_Log} (hb0v : Oseglog_Log.ob eb0v Γ gb0v rowb0v b0v) (hp : Pre [[(gb0, .cells #[(pq gb0v)] 102 (0, 0))], rowb0v] Γ w0) {r : Bool} (h : m_seglog_Open_2 a0 n b0v = some r) : Calls Tryz.prog 91 #[.int .i64 a0, .int .i64 n, (pq gb0)] w0 (Outc Γ [[(gb0, .cells #[(pq gb0v)] 102 (0, 0))], rowb0v] w0 (r_seglog_Open_2 gb0 gb0v eb0v b0v rowb0v r)) := by
 refine calls_of (N := 12) (rs := [5]) (args := [.int .i64 a0, .int .i64 n, (pq gb0)]) Tryz.func91 rfl Tryz.ntmps91 Tryz.results91 rfl ?_
 obtain ⟨F, hF⟩ : ∃ F : Fm, F = ⟨ids [[(gb0, .cells #[(pq gb0v)] 102 (0, 0))], rowb0v], w0, Γ⟩ := ⟨_, rfl⟩
 refine WC.here (C := CC F Γ [[(gb0, .cells #[(pq gb0v)] 102 (0, 0))], rowb0v]) ?_ (hF ▸ hp.start)
 refine WC.rs (as_ (v := .bool false) ?_)
 refine WR.done ?_
 refine WC.rs (mv (v := .int .i64 n) (vb (q_ldl (i := 0) (v := (pq gb0v)) rfl rfl Tryz.isAgg102 rfl rfl) (vb (q_nil (A := some ⟨gb0v, 0, none⟩) rfl rfl rfl) (vb (q_fl 4 fld_150_2 rfl rfl rfl) ?_))))
 have hq := hb0v
 obtain ⟨hrow_1, ho0_1, ho1_1, ho2_1, ho3_1, ho4_1, ho5_1, ho6_1, -⟩ := hq
 intro w hw; have hw := hw.unfold (i := 1) rfl hrow_1
 refine WR.here (C := CC F Γ [[(gb0v, .cells #[.pointer (some ⟨eb0v.2, 0, none⟩), .string b0v.place_name, .int .i64 b0v.place_gen, .int .i64 b0v.size, .int .i64 b0v.last, .int .i64 b0v.tail, .int .i64 b0v.count, .int .i64 b0v.bytes] eb0v.1 (0, 0))], [(gb0, .cells #[(pq gb0v)] 102 (0, 0))]]) ?_ hw
 clear hw
 refine vb (q_ldl (i := 0) (v := .int .i64 b0v.last) rfl rfl Tryz.isAgg2 rfl rfl) (vb (q_gtr rfl rfl rfl) (as_ (v := .bool (decide (b0v.last < n))) ?_))
 refine WR.done ?_
 refine WC.ret ?_
 intro w hw
 have hw := hw.fold (is := [0]) rfl hrow_1
 obtain rfl := Option.some.inj h
 subst hF
 exact end_e (is := [1, 0]) (by kernel_rfl) hw rfl ⟨rfl, rfl, trivial⟩
abbrev r_disk_Disk_Sync (gd : Nat) (ed : Nat) (r : Odisk_Disk) (U : List Rowb) (Γ : Gh) (v : Value) : Prop := ∃ (rowd' : Rowb), v = .tuple #[] ∧ U = [rowd'] ∧ Odisk_Disk.ob ed Γ gd rowd' r ∧ True
theorem t_disk_Disk_Sync {Γ : Gh} {w0 : World} {gd ed : Nat} {rowd : Rowb} {d : Odisk_Disk} (hd : Odisk_Disk.ob ed Γ gd rowd d) (hp : Pre [rowd] Γ w0) {r : Odisk_Disk} (h : m_disk_Disk_Sync d = some r) : Calls Tryz.prog 92 #[(pq gd)] w0 (Outc Γ [rowd] w0 (r_disk_Disk_Sync gd ed r)) := by
 refine calls_of (N := 13) (rs := []) (args := [(pq gd)]) Tryz.func92 rfl Tryz.ntmps92 Tryz.results92 rfl ?_
 obtain ⟨F, hF⟩ : ∃ F : Fm, F = ⟨ids [rowd], w0, Γ⟩ := ⟨_, rfl⟩
 refine WC.here (C := CC F Γ [rowd]) ?_ (hF ▸ hp.start)
 refine WC.rs (mv (v := (pq gd)) (mv (v := (pq gd)) (vb (q_nil (A := some ⟨gd, 0, none⟩) rfl rfl rfl) (vb (q_fl 2 fld_67_2 rfl rfl rfl) ?_))))
 have hq := hd
 obtain ⟨m1_1, r1_1, m2_1, r2_1, A3_1, c3_1, r3_1, hrow_1, ho0_1, ho1_1, ho2_1, ho3_1, -⟩ := hq
 intro w hw; have hw := hw.unfold (i := 0) rfl hrow_1
 refine WR.here (C := CC F Γ [[(gd, .cells #[.int .i64 d.room, .map (some m1_1), .map (some m2_1), .slice A3_1 d.loose.length c3_1] ed (0, 0))], r1_1, r2_1, r3_1]) ?_ hw
 clear hw
 refine vb (q_ldl (i := 0) (v := .map (some m2_1)) rfl rfl Tryz.isAgg64 rfl rfl) ?_
 refine e_clone clone49 (i := 2) rfl ho2_1 rfl rfl (call_run Tryz.call49 rfl rfl (by kernel_rfl)) ?_
 intro g2 row3 hm4
 change WR _ _ _ (CC F Γ [row3, [(gd, .cells #[.int .i64 d.room, .map (some m1_1), .map (some m2_1), .slice A3_1 d.loose.length c3_1] ed (0, 0))], r1_1, r2_1, r3_1]) _ _ (upd _ 7 (.map (some g2)))
 refine vb (q_nil (A := some ⟨gd, 0, none⟩) rfl rfl rfl) (vb (q_fl 1 fld_67_1 rfl rfl rfl) ?_)
 refine e_st (i := 1) (v := .map (some g2)) (new := #[.int .i64 d.room, .map (some g2), .map (some m2_1), .slice A3_1 d.loose.length c3_1]) rfl Tryz.sizeOf64 rfl rfl rfl rfl (by kernel_rfl) rfl rfl rfl rfl ?_
 refine WR.done ?_
 refine WC.region ?_
 refine mv (v := (pq gd)) (vb (q_nil (A := some ⟨gd, 0, none⟩) rfl rfl rfl) (vb (q_fl 3 fld_67_3 rfl rfl rfl) ?_))
 refine e_st (i := 1) (v := .slice none 0 0) (new := #[.int .i64 d.room, .map (some g2), .map (some m2_1), .slice none 0 0]) rfl Tryz.sizeOf65 rfl rfl rfl rfl (by kernel_rfl) rfl rfl rfl rfl ?_
 refine WR.nil ?_
 intro w hw
 have hw := hw.pad
 obtain ⟨row_5, hrow_5, hob_5⟩ : ∃ rw : Rowb, rw = ([[(gd, .cells #[.int .i64 d.room, .map (some g2), .map (some m2_1), .slice none 0 0] ed (0, 0))], row3, r2_1, []] : List Rowb).flatten ∧ Odisk_Disk.ob ed Γ gd rw (⟨d.room, d.seen, d.seen, []⟩ : Odisk_Disk) := ⟨_, rfl, g2, row3, m2_1, r2_1, none, 0, [], rfl, ho0_1, hm4, ho2_1, (Own.nil ddisk_changeT Γ 96), trivial⟩
 have hw := hw.fold (is := [2, 1, 2, 0]) rfl hrow_5
 obtain rfl := Option.some.inj h
 subst hF
 exact end_e (is := [0]) (by kernel_rfl) hw rfl ⟨row_5, rfl, rfl, hob_5, trivial⟩
abbrev r_seglog_Open (gd : Nat) (ed : Nat) (r : Odisk_Disk × (Option Oseglog_Log) × (List (List UInt8)) × Int) (U : List Rowb) (Γ : Gh) (v : Value) : Prop := ∃ (rowd' : Rowb), ∃ (g0 : Nat), ∃ (row0 : Rowb), ∃ (A1 : Option Addr), ∃ (c1 : Nat), ∃ (row1 : Rowb), v = .tuple #[optp r.2.1 g0, .slice A1 r.2.2.1.length c1, .int .i64 r.2.2.2] ∧ U = [rowd', row0, row1] ∧ Odisk_Disk.ob ed Γ gd rowd' r.1 ∧ optob (Oseglog_Log.ob (150, gd) Γ g0) row0 r.2.1 ∧ Own (slT byteT) Γ 77 row1 A1 c1 r.2.2.1 ∧ I64 r.2.2.2 ∧ True
theorem t_seglog_Open {Γ : Gh} {w0 : World} {gd ed : Nat} {rowd : Rowb} {d : Odisk_Disk} (hd : Odisk_Disk.ob ed Γ gd rowd d) (name : ByteArray) (hname : name.size ≤ lim) (size : Int) (hsize : I64 size) (hp : Pre [rowd] Γ w0) {r : Odisk_Disk × (Option Oseglog_Log) × (List (List UInt8)) × Int} (h : m_seglog_Open d name size = some r) : Calls Tryz.prog 53 #[(pq gd), .string name, .int .i64 size] w0 (Outc Γ [rowd] w0 (r_seglog_Open gd ed r)) := by
 refine calls_of (N := 70) (rs := [6, 7, 8]) (args := [(pq gd), .string name, .int .i64 size]) Tryz.func53 rfl Tryz.ntmps53 Tryz.results53 rfl ?_
 obtain ⟨F, hF⟩ : ∃ F : Fm, F = ⟨ids [rowd], w0, Γ⟩ := ⟨_, rfl⟩
 refine WC.here (C := CC F Γ [rowd]) ?_ (hF ▸ hp.start)
 refine WC.rs (as_ (v := .pointer none) (as_ (v := .slice none 0 0) (as_ (v := .int .i64 0) ?_)))
 refine WR.done ?_
 refine WC.seq (WC.rs (mv (v := .string name) (vb (q_len_str rfl Tryz.underlying9 rfl) (vb (q_lss rfl rfl rfl) (mv (v := .bool (decide (((name.size : Nat) : Int) < 1))) (vg0 rfl rfl rfl rfl rfl (fun hg1 => QV.qo (q_move (v := .string name) rfl (by kernel_rfl))) (vg0 rfl rfl rfl rfl rfl (fun hg2 => QV.qo (q_len_str rfl Tryz.underlying9 (gu hg2 rfl))) ?_)))))))
 refine vg0 rfl rfl rfl rfl rfl (fun hg3 => QV.qo (q_gtr rfl (gu hg3 rfl) rfl)) (vb (q_pick rfl rfl (pk_or' (g := (decide (((name.size : Nat) : Int) < 1))) (y := (decide (2 < ((name.size : Nat) : Int)))))) (mv (v := .bool ((decide (((name.size : Nat) : Int) < 1)) || (decide (2 < ((name.size : Nat) : Int))))) (vg0 rfl rfl rfl rfl rfl (fun hg4 => QV.qo (q_move (v := .string name) rfl (by kernel_rfl))) ?_)))
 obtain ⟨z6, hz7, h⟩ := bnd h
 refine vg0 rfl rfl rfl rfl rfl (fun hg5 => (q_call (call_run Tryz.call83 rfl rfl (args2 (gu hg5 rfl) rfl)) (fun w hw => t_strings_Contains (Γ := Gh.all w) name hname (Sat.all w) (gc_of hz7 hg5)))) (vb (q_pick rfl rfl (pk_or' (g := ((decide (((name.size : Nat) : Int) < 1)) || (decide (2 < ((name.size : Nat) : Int))))) (y := z6))) ?_)
 refine WR.done ?_
 refine WC.cif h (by kernel_rfl) (fun hb8 h => ?_) (fun hb8 h => ?_)
 ·
  refine WC.rs (as_ (v := .pointer none) (as_ (v := .slice none 0 0) (as_ (v := .int .i64 1) ?_)))
  refine WR.done ?_
  refine WC.ret ?_
  intro w hw
  have hw := hw.pad
  have hw := hw.pad
  obtain rfl := Option.some.inj h
  subst hF
  exact end_e (is := [2, 1, 0]) (by kernel_rfl) hw rfl ⟨rowd, 0, [], none, 0, [], rfl, rfl, hd, rfl, (Own.nil (slT byteT) _ 77), (show I64 1 by decide), trivial⟩
 ·
  refine WC.skip ?_
  change WC _ _ _ _ _ _
  refine WC.rs (mv (v := (pq gd)) (mv (v := .string name) (vb (q_build' (v := .agg #[(pq gd), .string name, .int .i64 0]) rfl (bargs2 rfl rfl) (fun w => by kernel_rfl)) ?_)))
  refine e_alloc Tryz.zeroValue141 rfl rfl rfl rfl ?_
  intro g9
  refine e_st (i := 0) (v := .agg #[(pq gd), .string name, .int .i64 0]) (new := #[(pq gd), .string name, .int .i64 0]) rfl Tryz.sizeOf141 rfl rfl rfl rfl (by kernel_rfl) rfl rfl rfl rfl ?_
  refine WR.done ?_
  refine WC.rs (vb (q_ldla (i := 0) (vs := [(pq gd), .string name, .int .i64 0]) rfl rfl Tryz.isAgg141 Tryz.sizeOf141 rfl rfl) ?_)
  obtain ⟨z10, hz11, h⟩ := bnd h
  refine e_call (is := [1]) rfl rfl (call_run Tryz.call84 rfl rfl (by kernel_rfl)) rfl (fun w hp => t_seglog_place_holds (gp__0 := gd) name hname 0 (show I64 0 by decide) hd hp hz11) ?_
  rintro Γ12 U14 v15 hl13 ⟨rfl, rfl, hr16, hr17, hr18, _⟩
  change WR _ _ _ (CC F Γ12 [rowd, [(g9, .cells #[(pq gd), .string name, .int .i64 0] 141 (0, 0))]]) _ _ (upd _ 33 (.tuple #[.int .i64 z10.1, .int .i64 z10.2.1, .int .i64 z10.2.2]))
  refine mv (v := .tuple #[.int .i64 z10.1, .int .i64 z10.2.1, .int .i64 z10.2.2]) (vb (q_extract (v := .int .i64 z10.1) rfl rfl rfl) (vb (q_extract (v := .int .i64 z10.2.1) rfl rfl rfl) (vb (q_extract (v := .int .i64 z10.2.2) rfl rfl rfl) ?_)))
  refine e_alloc Tryz.zeroValue2 rfl rfl rfl rfl ?_
  intro g19
  refine e_st (i := 0) (v := .int .i64 z10.1) (new := #[.int .i64 z10.1]) rfl Tryz.sizeOf2 rfl rfl rfl rfl (by kernel_rfl) rfl rfl rfl rfl ?_
  refine as_ (v := .int .i64 z10.2.1) (as_ (v := .int .i64 z10.2.2) ?_)
  refine WR.done ?_
  refine WC.seq (WC.rs (mv (v := .int .i64 z10.2.2) (vb (q_neq rfl rfl rfl) ?_)))
  refine WR.done ?_
  refine WC.cif h (by kernel_rfl) (fun hb20 h => ?_) (fun hb20 h => ?_)
  ·
   refine WC.rs (mv (v := .int .i64 z10.2.2) (as_ (v := .pointer none) (as_ (v := .slice none 0 0) (as_ (v := .int .i64 z10.2.2) ?_))))
   refine WR.done ?_
   refine WC.ret ?_
   intro w hw
   have hw := hw.pad
   have hw := hw.pad
   obtain rfl := Option.some.inj h
   subst hF
   exact end_e (is := [3, 1, 0]) (by kernel_rfl) hw rfl ⟨rowd, 0, [], none, 0, [], rfl, rfl, (hd.mono hl13), rfl, (Own.nil (slT byteT) _ 77), hr18, trivial⟩
  ·
   refine WC.skip ?_
   change WC _ _ _ _ _ _
   refine WC.rs (vb (q_ldl (i := 0) (v := .int .i64 z10.1) rfl rfl Tryz.isAgg2 rfl rfl) (vb (q_fl 2 fld_141_2 rfl rfl rfl) ?_))
   refine e_st (i := 2) (v := .int .i64 z10.1) (new := #[(pq gd), .string name, .int .i64 z10.1]) rfl Tryz.sizeOf2 rfl rfl rfl rfl (by kernel_rfl) rfl rfl rfl rfl ?_
   refine WR.done ?_
   refine WC.rs (mv (v := (pq gd)) ?_)
   obtain ⟨z21, hz22, h⟩ := bnd h
   refine vc rfl rfl rfl (q_call (call_run Tryz.call85 rfl rfl (by kernel_rfl)) (fun w hw => t_disk_Disk_Loose (Γ := Gh.all w) ((hd.mono hl13).mono hw.sat.le_all) (hw.ra 1 rfl) (Sat.all w) hz22)) (as_ (v := .int .i64 z21) ?_)
   refine WR.done ?_
   refine WC.seq ?_
   intro w hw; have h023 := hw.le
   refine WC.here (C := CC F Γ12 [[(g19, .cells #[.int .i64 z10.1] 2 (0, 0))], rowd, [(g9, .cells #[(pq gd), .string name, .int .i64 z10.1] 141 (0, 0))]]) ?_ hw; clear hw
   refine WC.held (CC F Γ12 [[(g19, .cells #[.int .i64 z10.1] 2 (0, 0))], [(g9, .cells #[(pq gd), .string name, .int .i64 z10.1] 141 (0, 0))]]) (by kernel_rfl) (fun w hw => hw.drawn _) ?_
   change WH _ _ _ _ (CC F Γ12 [[(g19, .cells #[.int .i64 z10.1] 2 (0, 0))], rowd, [(g9, .cells #[(pq gd), .string name, .int .i64 z10.1] 141 (0, 0))]]) _ 5 #[false, false, false, false, false] _
   refine hu 0 rfl (bk_ (Gh.refl _) h023 (.cons_cons _ (.cons _ (.cons_cons _ .slnil)))) (q_ldla (i := 1) (vs := [(pq gd), .string name, .int .i64 z10.1]) rfl rfl Tryz.isAgg141 Tryz.sizeOf141 rfl rfl) (hu 1 rfl (bk_ (Gh.refl _) h023 (.cons_cons _ (.cons _ (.cons_cons _ .slnil)))) (q_ldla (i := 1) (vs := [(pq gd), .string name, .int .i64 z10.1]) rfl rfl Tryz.isAgg141 Tryz.sizeOf141 rfl rfl) (hu 3 rfl (bk_ (Gh.refl _) h023 (.cons_cons _ (.cons _ (.cons_cons _ .slnil)))) (q_move (v := .int .i64 z10.2.1) rfl (by kernel_rfl)) ?_))
   refine WH.lone (i := 2) (by kernel_rfl) rfl ?_
   obtain ⟨z24, hz25, h⟩ := bnd h
   refine vc rfl rfl rfl (q_call (call_run Tryz.call87 rfl rfl (by kernel_rfl)) (fun w hw => t_seglog_place_list (Γ := Gh.all w) (gp__0 := gd) name hname z10.1 hr16 (Sat.all w) hz25)) ?_
   refine WR.nil ?_
   refine WH.next (bk_ (Gh.refl _) h023 (.cons_cons _ (.cons _ (.cons_cons _ .slnil)))) ?_
   refine WH.lone (i := 4) (by kernel_rfl) rfl ?_
   obtain ⟨hk26, h⟩ := chk_some h
   obtain ⟨z27, hz28, h⟩ := bnd h
   refine e_call (is := [1]) rfl rfl (call_run Tryz.call86 rfl rfl (by kernel_rfl)) rfl (fun w hp => t_seglog_place_shorten (gp__0 := gd) name hname z10.1 hr16 z24 (of_decide_eq_true hk26) z10.2.1 hr17 (hd.mono hl13) hp hz28) ?_
   rintro Γ29 U31 v32 hl30 ⟨row33, rfl, rfl, hr34, _⟩
   change WR _ _ _ (CC F Γ29 [row33, [(g19, .cells #[.int .i64 z10.1] 2 (0, 0))], [(g9, .cells #[(pq gd), .string name, .int .i64 z10.1] 141 (0, 0))]]) _ _ (upd _ 48 (.tuple #[]))
   refine WR.nil ?_
   refine WH.next (bk_ hl30 h023 (.cons _ (.cons_cons _ (.cons_cons _ .slnil)))) ?_
   refine WH.done (by kernel_rfl) ?_
   change WC _ _ _ _ _ _
   refine WC.rs (vb (q_ldla (i := 2) (vs := [(pq gd), .string name, .int .i64 z10.1]) rfl rfl Tryz.isAgg141 Tryz.sizeOf141 rfl rfl) (vb (q_mkfn (v := .func (.func 89) #[] #[(pq g19)]) rfl (by kernel_rfl)) ?_))
   obtain ⟨rowT35, hT36⟩ : ∃ r : Rowb, r = ([[(g19, .cells #[.int .i64 z10.1] 2 (0, 0))]] : List Rowb).flatten := ⟨_, rfl⟩
   refine WR.sub (fun w hw => hw.fold (is := [1]) rfl hT36) ?_
   obtain ⟨z37, hz38, h⟩ := bnd h
   refine e_call (is := [1, 0]) rfl rfl (call_run Tryz.call88 rfl rfl (by kernel_rfl)) rfl (fun w hp => t_seglog_place_remove (caps := #[(pq g19)]) hr34 name hname z10.1 hr16 (fun x y => m_seglog_Open_1 x y z10.1) (fun {Γq_ wq_} x hx y hy hle hp2 {_} hq => Calls.mono (t_seglog_Open_1 (Γ := Γq_) x hx y hy z10.1 hr16 (by subst hT36; exact hp2.parts) hq) (fun e w2 ho => Outc.quiet (by subst hT36; exact hp2.parts) ho (fun _ _ _ hr => ⟨hr.1, hr.2.1⟩))) Tryz.call89 hp hz38) ?_
   rintro Γ39 U41 v42 hl40 ⟨row43, rfl, rfl, hd44⟩
   change WR _ _ _ (CC F Γ39 [row43, rowT35, [(g9, .cells #[(pq gd), .string name, .int .i64 z10.1] 141 (0, 0))]]) _ _ (upd _ 51 (.tuple #[]))
   refine WR.sub (fun w hw => hw.unfold (i := 1) rfl hT36) ?_
   change WR _ _ _ (CC F Γ39 [[(g19, .cells #[.int .i64 z10.1] 2 (0, 0))], row43, [(g9, .cells #[(pq gd), .string name, .int .i64 z10.1] 141 (0, 0))]]) _ _ _
   refine WR.done ?_
   refine WC.rs (vb (q_ldla (i := 2) (vs := [(pq gd), .string name, .int .i64 z10.1]) rfl rfl Tryz.isAgg141 Tryz.sizeOf141 rfl rfl) (mv (v := .int .i64 size) (vb (q_max rfl rfl rfl) (vb (q_build' (v := .agg #[(pq gd), .string name, .int .i64 z10.1, .int .i64 (max size 16), .int .i64 0, .int .i64 0, .int .i64 0, .int .i64 0]) rfl (bargs2 rfl rfl) (fun w => by kernel_rfl)) ?_))))
   refine e_box (v := .agg #[(pq gd), .string name, .int .i64 z10.1, .int .i64 (max size 16), .int .i64 0, .int .i64 0, .int .i64 0, .int .i64 0]) rfl rfl rfl rfl (by kernel_rfl) ?_
   intro g45
   refine e_alloc Tryz.zeroValue102 rfl rfl rfl rfl ?_
   intro g46
   refine e_st (i := 0) (v := (pq g45)) (new := #[(pq g45)]) rfl Tryz.sizeOf102 rfl rfl rfl rfl (by kernel_rfl) rfl rfl rfl rfl ?_
   refine WR.done ?_
   refine WC.rs (vb (q_ldl (i := 0) (v := (pq g45)) rfl rfl Tryz.isAgg102 rfl rfl) ?_)
   obtain ⟨row_47, hrow_47, hob_47⟩ : ∃ rw : Rowb, rw = ([[(g45, .cells #[(pq gd), .string name, .int .i64 z10.1, .int .i64 (max size 16), .int .i64 0, .int .i64 0, .int .i64 0, .int .i64 0] 150 (0, 0))]] : List Rowb).flatten ∧ Oseglog_Log.ob (150, gd) Γ39 g45 rw (⟨name, z10.1, (max size 16), 0, 0, 0, 0⟩ : Oseglog_Log) := ⟨_, rfl, rfl, hname, hr16, (max_r hsize (show I64 16 by decide)), (show I64 0 by decide), (show I64 0 by decide), (show I64 0 by decide), (show I64 0 by decide), trivial⟩
   intro w hw; have hw := hw.fold (is := [1]) rfl hrow_47
   refine WR.here (C := CC F Γ39 [row_47, [(g46, .cells #[(pq g45)] 102 (0, 0))], [(g19, .cells #[.int .i64 z10.1] 2 (0, 0))], row43, [(g9, .cells #[(pq gd), .string name, .int .i64 z10.1] 141 (0, 0))]]) ?_ hw
   clear hw
   obtain ⟨z48, hz49, h⟩ := bnd h
   refine e_call (is := [0, 2]) rfl rfl (call_run Tryz.call90 rfl rfl (by kernel_rfl)) rfl (fun w hp => t_seglog_Log_scan hob_47 hd44 hp hz49) ?_
   rintro Γ50 U52 v53 hl51 ⟨row54, row56, A58, c59, row60, rfl, rfl, hr55, hr57, hr61, _⟩
   change WR _ _ _ (CC F Γ50 [row54, row56, row60, [(g46, .cells #[(pq g45)] 102 (0, 0))], [(g19, .cells #[.int .i64 z10.1] 2 (0, 0))], [(g9, .cells #[(pq gd), .string name, .int .i64 z10.1] 141 (0, 0))]]) _ _ (upd _ 58 (.slice A58 z48.2.2.length c59))
   refine as_ (v := .slice A58 z48.2.2.length c59) ?_
   refine WR.done ?_
   refine WC.rs (vb (q_ldla (i := 5) (vs := [(pq gd), .string name, .int .i64 z10.1]) rfl rfl Tryz.isAgg141 Tryz.sizeOf141 rfl rfl) (vb (q_mkfn (v := .func (.func 91) #[] #[(pq g46)]) rfl (by kernel_rfl)) ?_))
   obtain ⟨rowT62, hT63⟩ : ∃ r : Rowb, r = ([[(g46, .cells #[(pq g45)] 102 (0, 0))], row54] : List Rowb).flatten := ⟨_, rfl⟩
   refine WR.sub (fun w hw => hw.fold (is := [3, 0]) rfl hT63) ?_
   obtain ⟨z64, hz65, h⟩ := bnd h
   refine e_call (is := [1, 0]) rfl rfl (call_run Tryz.call88 rfl rfl (by kernel_rfl)) rfl (fun w hp => t_seglog_place_remove (caps := #[(pq g46)]) hr57 name hname z10.1 hr16 (fun x y => m_seglog_Open_2 x y z48.1) (fun {Γq_ wq_} x hx y hy hle hp2 {_} hq => Calls.mono (t_seglog_Open_2 (Γ := Γq_) x hx y hy (hr55.mono hle) (by subst hT63; exact hp2.parts) hq) (fun e w2 ho => Outc.quiet (by subst hT63; exact hp2.parts) ho (fun _ _ _ hr => ⟨hr.1, hr.2.1⟩))) Tryz.call91 hp hz65) ?_
   rintro Γ66 U68 v69 hl67 ⟨row70, rfl, rfl, hd71⟩
   change WR _ _ _ (CC F Γ66 [row70, rowT62, row60, [(g19, .cells #[.int .i64 z10.1] 2 (0, 0))], [(g9, .cells #[(pq gd), .string name, .int .i64 z10.1] 141 (0, 0))]]) _ _ (upd _ 61 (.tuple #[]))
   refine WR.sub (fun w hw => hw.unfold (i := 1) rfl hT63) ?_
   change WR _ _ _ (CC F Γ66 [[(g46, .cells #[(pq g45)] 102 (0, 0))], row54, row70, row60, [(g19, .cells #[.int .i64 z10.1] 2 (0, 0))], [(g9, .cells #[(pq gd), .string name, .int .i64 z10.1] 141 (0, 0))]]) _ _ _
   refine WR.done ?_
   refine WC.cut (fun σ w => ∃ (o74 : Odisk_Disk), ∃ (Γ72 : Gh), ∃ (row75 : Rowb), m_seglog_Open_j1 z48 o74 = some r ∧ slots σ [(14, (pq g46)), (15, .slice A58 z48.2.2.length c59)] ∧ CC F Γ72 [[(g46, .cells #[(pq g45)] 102 (0, 0))], row54, row75, row60] w ∧ Gh.le Γ66 Γ72 ∧ Odisk_Disk.ob ed Γ72 gd row75 o74 ∧ True) ?_ ?_
   ·
    refine WC.rs (mv (v := (pq gd)) ?_)
    obtain ⟨z77, hz78, h⟩ := bnd h
    refine vc rfl rfl rfl (q_call (call_run Tryz.call85 rfl rfl (by kernel_rfl)) (fun w hw => t_disk_Disk_Loose (Γ := Gh.all w) (hd71.mono hw.sat.le_all) (hw.ra 2 rfl) (Sat.all w) hz78)) (mv (v := .int .i64 z21) (vb (q_neq rfl rfl rfl) ?_))
    refine WR.done ?_
    refine WC.cif h (by kernel_rfl) (fun hb79 h => ?_) (fun hb79 h => ?_)
    ·
     refine WC.region ?_
     refine mv (v := (pq gd)) ?_
     obtain ⟨z80, hz81, h⟩ := bnd h
     refine e_call (is := [2]) rfl rfl (call_run Tryz.call92 rfl rfl (by kernel_rfl)) rfl (fun w hp => t_disk_Disk_Sync hd71 hp hz81) ?_
     rintro Γ82 U84 v85 hl83 ⟨row86, rfl, rfl, hr87, _⟩
     change WR _ _ _ (CC F Γ82 [row86, [(g46, .cells #[(pq g45)] 102 (0, 0))], row54, row60, [(g19, .cells #[.int .i64 z10.1] 2 (0, 0))], [(g9, .cells #[(pq gd), .string name, .int .i64 z10.1] 141 (0, 0))]]) _ _ (upd _ 67 (.tuple #[]))
     refine WR.nil ?_
     intro w hw
     exact ⟨z80, Γ82, row86, h, (sl_ (by kernel_rfl)), (hw.only (is := [1, 1, 0, 0]) rfl), hl83, hr87, trivial⟩
    ·
     refine WC.skip ?_
     intro w hw
     exact ⟨z64, Γ66, row70, h, (sl_ (by kernel_rfl)), (hw.only (is := [0, 0, 0, 0]) rfl), (Gh.refl _), hd71, trivial⟩
   ·
    rintro σ w ⟨o74, Γ72, row75, h, hsl, hw, hl73, ho76, -⟩
    refine Wpt.slots hsl ?_
    refine WC.here (C := CC F Γ72 [[(g46, .cells #[(pq g45)] 102 (0, 0))], row54, row75, row60]) ?_ hw
    clear hw hsl
    refine WC.rs (vb (q_ldl (i := 0) (v := (pq g45)) rfl rfl Tryz.isAgg102 rfl rfl) (mv (v := .slice A58 z48.2.2.length c59) (as_ (v := (pq g45)) (as_ (v := .slice A58 z48.2.2.length c59) (as_ (v := .int .i64 0) ?_)))))
    refine WR.done ?_
    refine WC.ret ?_
    intro w hw
    obtain rfl := Option.some.inj h
    subst hF
    exact end_e (is := [2, 1, 1]) (by kernel_rfl) hw rfl ⟨row75, g45, row54, A58, c59, row60, rfl, rfl, ho76, (hr55.mono (hl67.trans hl73)), (hr61.mono (hl67.trans hl73)), (show I64 0 by decide), trivial⟩
theorem t_num_Text {Γ : Gh} {w0 : World} {Ab : Option Addr} {cb : Nat} {b : List UInt8} (hb : Sl byteT Γ Ab b) (hbc : b.length ≤ cb) (at_ : Int) (hat_ : I64 at_) (most : Int) (hmost : I64 most) (hs : Sat Γ w0) {r : ByteArray × Int × Int} (h : m_num_Text b at_ most = some r) : Calls Tryz.prog 162 #[.slice Ab b.length cb, .int .i64 at_, .int .i64 most] w0 (fun e w' => e = .returned (.tuple #[.string r.1, .int .i64 r.2.1, .int .i64 r.2.2]) ∧ Fr no w0 w') := by
 refine calls_of (N := 44) (rs := [6, 7, 8]) (args := [.slice Ab b.length cb, .int .i64 at_, .int .i64 most]) Tryz.func162 rfl Tryz.ntmps162 Tryz.results162 rfl ?_
 obtain ⟨F, hF⟩ : ∃ F : Fm, F = ⟨no, w0, Γ⟩ := ⟨_, rfl⟩
 refine WC.here (C := CC F Γ []) ?_ (hF ▸ Cur.start0 hs)
 refine WC.rs (as_ (v := .string ByteArray.empty) (as_ (v := .int .i64 0) (as_ (v := .int .i64 0) ?_)))
 refine WR.done ?_
 refine WC.rs (mv (v := .slice Ab b.length cb) (mv (v := .int .i64 at_) ?_))
 obtain ⟨z1, hz2, h⟩ := bnd h
 refine vc rfl rfl rfl (q_call (call_run Tryz.call120 rfl rfl (by kernel_rfl)) (fun w hw => t_num_Num (Γ := Gh.all w) (hb.mono hw.sat.le_all) hbc at_ hat_ (Sat.all w) hz2)) (mv (v := .tuple #[.int .i64 z1.1, .int .i64 z1.2.1, .int .i64 z1.2.2]) (vb (q_extract (v := .int .i64 z1.1) rfl rfl rfl) (vb (q_extract (v := .int .i64 z1.2.1) rfl rfl rfl) (vb (q_extract (v := .int .i64 z1.2.2) rfl rfl rfl) (as_ (v := .int .i64 z1.1) (as_ (v := .int .i64 z1.2.1) (as_ (v := .int .i64 z1.2.2) ?_)))))))
 refine WR.done ?_
 refine WC.seq (WC.block (WC.rs (mv (v := .int .i64 z1.2.2) (vb (q_neq rfl rfl rfl) (as_ (v := .bool (z1.2.2 != 0)) ?_)))))
 refine WR.done ?_
 refine WC.cif h (by kernel_rfl) (fun hb3 h => ?_) (fun hb3 h => ?_)
 ·
  refine WC.rs (mv (v := .int .i64 z1.2.2) (as_ (v := .string ByteArray.empty) (as_ (v := .int .i64 0) (as_ (v := .int .i64 z1.2.2) ?_))))
  refine WR.done ?_
  refine WC.ret ?_
  intro w hw
  obtain rfl := Option.some.inj h
  subst hF
  exact ⟨by kernel_rfl, hw.fr⟩
 ·
  refine WC.rs (mv (v := .int .i64 z1.1) (mv (v := .int .i64 most) (vb (q_max rfl rfl rfl) (vb (q_gtr rfl rfl rfl) (as_ (v := .bool (decide ((max most 0) < z1.1))) ?_)))))
  refine WR.done ?_
  refine WC.cif h (by kernel_rfl) (fun hb4 h => ?_) (fun hb4 h => ?_)
  ·
   refine WC.rs (as_ (v := .string ByteArray.empty) (as_ (v := .int .i64 0) (as_ (v := .int .i64 3) ?_)))
   refine WR.done ?_
   refine WC.ret ?_
   intro w hw
   obtain rfl := Option.some.inj h
   subst hF
   exact ⟨by kernel_rfl, hw.fr⟩
  ·
   refine WC.rs (mv (v := .int .i64 z1.1) (mv (v := .slice Ab b.length cb) (vb (q_len_slice rfl Tryz.underlying77 rfl) (mv (v := .int .i64 z1.2.1) (vb (q_sub rfl rfl rfl) (vb (q_gtr rfl rfl rfl) (as_ (v := .bool (decide ((w64 (((b.length : Nat) : Int) - z1.2.1)) < z1.1))) ?_)))))))
   refine WR.done ?_
   refine WC.cif h (by kernel_rfl) (fun hb5 h => ?_) (fun hb5 h => ?_)
   ·
    refine WC.rs (as_ (v := .string ByteArray.empty) (as_ (v := .int .i64 0) (as_ (v := .int .i64 4) ?_)))
    refine WR.done ?_
    refine WC.ret ?_
    intro w hw
    obtain rfl := Option.some.inj h
    subst hF
    exact ⟨by kernel_rfl, hw.fr⟩
   ·
    refine WC.skip ?_
    change WC _ _ _ _ _ _
    refine WC.rs (mv (v := .slice Ab b.length cb) (mv (v := .int .i64 z1.2.1) (mv (v := .int .i64 z1.2.1) (mv (v := .int .i64 z1.1) (vb (q_add rfl rfl rfl) ?_)))))
    obtain ⟨hk6, h⟩ := chk_some h
    obtain ⟨hk7, h⟩ := chk_some h
    obtain ⟨hk8, h⟩ := chk_some h
    refine vb (q_cut (c := cb) (lo := z1.2.1.toNat) (hi := (w64 (z1.2.1 + z1.1)).toNat) (xs := b) Tryz.underlying77 Tryz.sizeOf5 rfl rfl (nn_eq rfl hk7) (inle_eq rfl hk6) (of_decide_eq_true hk8) (inle_le hk6) hbc) (vb (q_bstr (hb.cut (cap := cb) (lo := z1.2.1.toNat) (hi := (w64 (z1.2.1 + z1.1)).toNat) (of_decide_eq_true hk8) (inle_le hk6) hbc) Tryz.underlying77 Tryz.underlying5 Tryz.underlying9 rfl rfl) (mv (v := .int .i64 z1.2.1) (mv (v := .int .i64 z1.1) (vb (q_add rfl rfl rfl) (as_ (v := .string (⟨(List.drop z1.2.1.toNat (List.take ((w64 (z1.2.1 + z1.1)).toNat) b)).toArray⟩ : ByteArray)) (as_ (v := .int .i64 (w64 (z1.2.1 + z1.1))) (as_ (v := .int .i64 0) ?_)))))))
    refine WR.done ?_
    refine WC.ret ?_
    intro w hw
    obtain rfl := Option.some.inj h
    subst hF
    exact ⟨by kernel_rfl, hw.fr⟩
end Fw
end Go.Proofs.YtckindfllegbgaaGreat
