/- Walks through the functions that the law reaches (printed by a program). No condition. -/
import Derived.Test.YtbidmceookkapaaGreatM
import Derived.Test.YtbidmceookkapaaGreatS
import Derived.Test.YtbidmceookkapaaGreatO
namespace Go.Proofs.YtbidmceookkapaaGreat
namespace Fw
set_option linter.unusedVariables false
set_option linter.unusedSimpArgs false
set_option linter.unusedSectionVars false
open Go.RowKit
/-- a tree's type, and which of its sums are lent -/
abbrev TG := TypeId × List ((Int × Int × Int) × Nat)
abbrev tg0 (t : TypeId) : TG := (t, [])
def OTree.ob (e : TG) (Γ : Gh) (g : Nat) (row : Rowb) (x : OTree) : Prop := ∃ (cs : List Value) (rowL : Rowb) (sm : Nat) (rowS : Rowb), row = ([[(g, .cells (cs ++ [Value.map (some sm)]).toArray e.1 (0, 0))], rowL, rowS] : List Rowb).flatten ∧ MapsA (strK Tryz.underlying9) recT.ag Γ cs rowL x.leaves ∧ x.leaves.length = 256 ∧ Sums kk107 142 e.2 Γ rowS sm x.sums ∧ True
theorem OTree.ob.mono {e : TG} {Γ Δ : Gh} {g : Nat} {row : Rowb} {x : OTree} (h : OTree.ob e Γ g row x) (hs : Γ.le Δ) : OTree.ob e Δ g row x := by
  obtain ⟨cs, rowL, sm, rowS, h1, h2, h3, h4, -⟩ := h
  exact ⟨cs, rowL, sm, rowS, h1, h2.mono hs, h3, h4.mono hs, trivial⟩
theorem lent_lt {l : List ((Int × Int × Int) × Nat)} {n m : Nat} (h : ∀ p ∈ l, p.1.1 ≤ (n : Int)) (hm : m = n + 1) : ∀ p ∈ l, p.1.1 < (m : Int) := fun p hp => by have := h p hp; omega
abbrev r_tree_Tree_Hash (gt : Nat) (et : TG) (r : OTree × Int) (U : List Rowb) (Γ : Gh) (v : Value) : Prop := ∃ (rowt' : Rowb), v = .int .u64 r.2 ∧ U = [rowt'] ∧ OTree.ob et Γ gt rowt' r.1 ∧ U64 r.2 ∧ True
/-- what is asked of whoever tells a place's hash -/
def HashC (H : OTree → List Int → Option (OTree × Int)) : Prop := ∀ {Γ : Gh} {w0 : World} {gt : Nat} {et : TG} {rowt : Rowb} {t : OTree} (ht : OTree.ob et Γ gt rowt t) {A : Option Addr} {c : Nat} {path : List Int} (hpath : Sl intT Γ A path) (hc : path.length ≤ c) (hlen : ∀ p ∈ et.2, p.1.1 < (path.length : Int)) (hp : Pre [rowt] Γ w0) {r : OTree × Int} (h : H t path = some r), Calls Tryz.prog 63 #[.pointer (some ⟨gt, 0, none⟩), .slice A path.length c] w0 (Outc Γ [rowt] w0 (r_tree_Tree_Hash gt et r))
theorem like_Dot : LikeT dotT sh0 := ⟨by
  rintro Γ Δ cs cs' x ⟨rfl, hf⟩ hl h
  obtain ⟨f0, f1⟩ := hf
  obtain ⟨u0, w0, rfl, k0, h⟩ := lks_cons h
  obtain ⟨u1, w1, rfl, k1, h⟩ := lks_cons h
  have h := lks_nil h
  subst h
  obtain ⟨y0, rfl, g0⟩ := lk_int k0 f0
  obtain ⟨y1, rfl, g1⟩ := lk_int k1 f1
  exact ⟨⟨y0, y1⟩, ⟨rfl, g0, g1⟩, rfl⟩⟩
theorem like_Span : LikeT spanT sh0 := ⟨by
  rintro Γ Δ cs cs' x ⟨rfl, hf⟩ hl h
  obtain ⟨f0, f1, f2⟩ := hf
  obtain ⟨u0, w0, rfl, k0, h⟩ := lks_cons h
  obtain ⟨u1, w1, rfl, k1, h⟩ := lks_cons h
  obtain ⟨u2, w2, rfl, k2, h⟩ := lks_cons h
  have h := lks_nil h
  subst h
  obtain ⟨y0, rfl, g0⟩ := lk_int k0 f0
  obtain ⟨y1, rfl, g1⟩ := lk_int k1 f1
  obtain ⟨y2, rfl, g2⟩ := lk_int k2 f2
  exact ⟨⟨y0, y1, y2⟩, ⟨rfl, g0, g1, g2⟩, rfl⟩⟩
@[reducible] def Ver.sh (x : Ver) : Sh := shL sh0 x.past
theorem like_Ver : LikeT verT Ver.sh := ⟨by
  rintro Γ Δ cs cs' x ⟨A2, c2, rfl, hf⟩ hl h
  obtain ⟨f0, f1, f2, f4⟩ := hf
  obtain ⟨u0, w0, rfl, k0, h⟩ := lks_cons h
  obtain ⟨u1, w1, rfl, k1, h⟩ := lks_cons h
  obtain ⟨u2, w2, rfl, k2, h⟩ := lks_cons h
  obtain ⟨u3, w3, rfl, k3, h⟩ := lks_cons h
  obtain ⟨u4, w4, rfl, k4, h⟩ := lks_cons h
  have h := lks_nil h
  subst h
  obtain ⟨y0, rfl, g0⟩ := lk_int k0 f0
  obtain ⟨y1, rfl, g1⟩ := lk_int k1 f1
  obtain ⟨y2, rfl, g2, e2⟩ := lk_sl like_Span hl k2 f2
  obtain ⟨y3, rfl⟩ := lk_bool k3
  obtain ⟨y4, rfl, g4⟩ := lk_str k4 f4
  exact ⟨⟨⟨y0, y1⟩, y2, y3, y4⟩, ⟨A2, c2, rfl, g0, g1, g2, g4⟩, e2⟩⟩
@[reducible] def Rec.sh (x : Rec) : Sh := shL Ver.sh x.vers
theorem like_Rec : LikeT recT Rec.sh := ⟨by
  rintro Γ Δ cs cs' x ⟨A1, c1, rfl, hf⟩ hl h
  obtain ⟨f0, f1⟩ := hf
  obtain ⟨u0, w0, rfl, k0, h⟩ := lks_cons h
  obtain ⟨u1, w1, rfl, k1, h⟩ := lks_cons h
  have h := lks_nil h
  subst h
  obtain ⟨y0, rfl, g0⟩ := lk_str k0 f0
  obtain ⟨y1, rfl, g1, e1⟩ := lk_sl like_Ver hl k1 f1
  exact ⟨⟨y0, y1⟩, ⟨A1, c1, rfl, g0, g1⟩, e1⟩⟩
abbrev r_firthlaw14_k (r : Rec) (U : List Rowb) (Γ : Gh) (v : Value) : Prop := ∃ (A0_1 : Option Addr), ∃ (c0_1 : Nat), v = .agg #[.string r.key, .slice A0_1 r.vers.length c0_1] ∧ U = [] ∧ Rec.fits Γ A0_1 c0_1 r ∧ True
set_option maxRecDepth 100000 in
set_option maxHeartbeats 400000 in
theorem t_firthlaw14_k {Γ : Gh} {w0 : World}  (hp : Pre [] Γ w0) {r : Rec} (h : m_firthlaw14_k = some r) : Calls Tryz.prog 30 #[] w0 (Outc Γ [] w0 (r_firthlaw14_k r)) := by
  refine calls_of_r (N := 5) (rs := [.cell 0 51]) (args := []) Tryz.func30 rfl Tryz.ntmps30 Tryz.results30 rfl ?_
  obtain ⟨F, hF⟩ : ∃ F : Fm, F = ⟨ids [], w0, Γ⟩ := ⟨_, rfl⟩
  refine WC.here (C := CC F Γ []) ?_ (hF ▸ hp.start)
  refine WC.rs ?_
  refine e_alloc Tryz.zeroValue51 rfl rfl rfl rfl ?_
  intro g1
  refine WR.nil ?_
  change WC _ _ _ _ _ _
  refine WC.rs ?_
  refine va rfl rfl rfl (q_build' (v := .agg #[.int .i64 1, .int .i64 1]) rfl (bargs2 rfl rfl) (fun w => by kernel_rfl)) ?_
  refine va rfl rfl rfl (q_build' (v := .agg #[.int .i64 1, .int .i64 1, .slice none 0 0, .bool false, .string (⟨#[118]⟩ : ByteArray)]) rfl (bargs2 rfl rfl) (fun w => by kernel_rfl)) ?_
  refine e_buildSlice (cs := #[.int .i64 1, .int .i64 1, .slice none 0 0, .bool false, .string (⟨#[118]⟩ : ByteArray)]) (e := 57) rfl rfl rfl rfl (fun w => by kernel_rfl) ?_
  intro g2
  refine va rfl rfl rfl (q_build' (v := .agg #[.string (⟨#[107]⟩ : ByteArray), .slice (some ⟨g2, 0, none⟩) 1 1]) rfl (bargs2 rfl rfl) (fun w => by kernel_rfl)) ?_
  refine e_st (i := 1) (v := .agg #[.string (⟨#[107]⟩ : ByteArray), .slice (some ⟨g2, 0, none⟩) 1 1]) (new := #[.string (⟨#[107]⟩ : ByteArray), .slice (some ⟨g2, 0, none⟩) 1 1]) rfl Tryz.sizeOf51 rfl rfl rfl rfl (by kernel_rfl) rfl rfl rfl rfl ?_
  refine WR.nil ?_
  change WC _ _ _ _ _ _
  refine WC.ret ?_
  intro w hw
  have ho3 : Own verT Γ 57 [(g2, .cells #[.int .i64 1, .int .i64 1, .slice none 0 0, .bool false, .string (⟨#[118]⟩ : ByteArray)] 57 (0, 0))] (some ⟨g2, 0, none⟩) 1 [(⟨(⟨1, 1⟩ : Dot), [], false, (⟨#[118]⟩ : ByteArray)⟩ : Ver)] := Own.of_blockL (T := verT) (ys := [(⟨(⟨1, 1⟩ : Dot), [], false, (⟨#[118]⟩ : ByteArray)⟩ : Ver)]) [[.int .i64 1, .int .i64 1, .slice none 0 0, .bool false, .string (⟨#[118]⟩ : ByteArray)]] rfl (show 1 ≤ lim by decide) (show Ty.rd verT Γ [.int .i64 1, .int .i64 1, .slice none 0 0, .bool false, .string (⟨#[118]⟩ : ByteArray)] (⟨(⟨1, 1⟩ : Dot), [], false, (⟨#[118]⟩ : ByteArray)⟩ : Ver) ∧ True from ⟨⟨none, 0, rfl, ⟨(show I64 1 by decide), (show I64 1 by decide), ⟨Nat.zero_le _, Sl.nil _ _ _⟩, (show (⟨#[118]⟩ : ByteArray).size ≤ lim by decide)⟩⟩, trivial⟩)
  have hc8 := ho3.capz
  obtain ⟨Γ4, hw, hl5, hr6⟩ := hw.seal (i := 0) rfl; have hs7 := ho3.sl hl5 hr6
  obtain rfl := Option.some.inj h
  subst hF
  exact ⟨[.agg #[.string (⟨#[107]⟩ : ByteArray), .slice (some ⟨g2, 0, none⟩) [(⟨(⟨1, 1⟩ : Dot), [], false, (⟨#[118]⟩ : ByteArray)⟩ : Ver)].length 1]], (rr_agg (i := 1) (us := [.string (⟨#[107]⟩ : ByteArray), .slice (some ⟨g2, 0, none⟩) [(⟨(⟨1, 1⟩ : Dot), [], false, (⟨#[118]⟩ : ByteArray)⟩ : Ver)].length 1]) hw rfl Tryz.isAgg51 Tryz.sizeOf51 (by kernel_rfl) rfl rr_nil), end_e (is := []) (by kernel_rfl) hw rfl ⟨(some ⟨g2, 0, none⟩), 1, rfl, rfl, ⟨(show (⟨#[107]⟩ : ByteArray).size ≤ lim by decide), ⟨hc8, hs7⟩⟩, trivial⟩⟩
set_option maxRecDepth 100000 in
set_option maxHeartbeats 400000 in
theorem t_firthref01_Hash {Γ : Gh} {w0 : World} {Ab : Option Addr} {cb : Nat} {b : List UInt8} (hb : Sl byteT Γ Ab b) (hbc : b.length ≤ cb) (hs : Sat Γ w0) {r : Int} (h : m_firthref01_Hash b = some r) : Calls Tryz.prog 58 #[.slice Ab b.length cb] w0 (fun e w' => e = .returned (.int .u64 r) ∧ Fr no w0 w') := by
  refine calls_of (N := 30) (rs := [2]) (args := [.slice Ab b.length cb]) Tryz.func58 rfl Tryz.ntmps58 Tryz.results58 rfl ?_
  obtain ⟨F, hF⟩ : ∃ F : Fm, F = ⟨no, w0, Γ⟩ := ⟨_, rfl⟩
  refine WC.here (C := CC F Γ []) ?_ (hF ▸ Cur.start0 hs)
  refine WC.rs ?_
  refine va rfl rfl rfl (q_assign (v := .int .u64 0) rfl (by kernel_rfl)) ?_
  refine WR.nil ?_
  change WC _ _ _ _ _ _
  refine WC.rs ?_
  refine va rfl rfl rfl (q_assign (v := .int .u64 14695981039346656037) rfl (by kernel_rfl)) ?_
  refine WR.nil ?_
  change WC _ _ _ _ _ _
  refine WC.seq ?_
  refine WC.rs ?_
  refine va rfl rfl rfl (q_assign (v := .int .i64 0) rfl (by kernel_rfl)) ?_
  refine WR.nil ?_
  change WC _ _ _ _ _ _
  refine WC.block ?_
  refine WC.forI h (fun (i4 : Nat) (h_1 : Int) σ w => slots σ [(0, .slice Ab b.length cb), (3, .int .u64 h_1), (4, .int .i64 ((i4 : Nat) : Int))] ∧ CC F Γ [] w ∧ U64 h_1 ∧ True) ?_ ?_
  · skip
    intro w hw
    exact ⟨(sl_ (by kernel_rfl)), hw, (show U64 14695981039346656037 by decide), trivial⟩
  rintro f3 i4 h_1 σ w hi5 hlt6 hge7 ⟨hsl, hw, hr2, -⟩
  refine Wpt.slots hsl ?_
  refine WC.here (C := CC F Γ []) ?_ hw
  clear hw hsl
  refine WC.seq ?_
  refine WC.rs ?_
  refine va rfl rfl rfl (q_move (v := .int .i64 ((i4 : Nat) : Int)) rfl (by kernel_rfl)) ?_
  refine va rfl rfl rfl (q_move (v := .slice Ab b.length cb) rfl (by kernel_rfl)) ?_
  refine va rfl rfl rfl (q_len_slice rfl Tryz.underlying97 rfl) ?_
  refine va rfl rfl rfl (q_lss rfl rfl rfl) ?_
  refine WR.nil ?_
  change WC _ _ _ _ _ _
  refine WC.cond (b := (decide (((i4 : Nat) : Int) < ((b.length : Nat) : Int)))) (by kernel_rfl) (fun hb8 => ?_) (fun hb8 => ?_)
  · skip
    have hl9 := ilt hb8
    have h := hlt6 hl9
    refine WC.skip ?_
    change WC _ _ _ _ _ _
    refine WC.seq ?_
    refine WC.block ?_
    refine WC.rs ?_
    refine va rfl rfl rfl (q_move (v := .int .u64 h_1) rfl (by kernel_rfl)) ?_
    refine va rfl rfl rfl (q_move (v := .slice Ab b.length cb) rfl (by kernel_rfl)) ?_
    refine va rfl rfl rfl (q_move (v := .int .i64 ((i4 : Nat) : Int)) rfl (by kernel_rfl)) ?_
    refine va rfl rfl rfl (q_ixn (i := i4) Tryz.underlying97 Tryz.sizeOf5 rfl rfl rfl hl9 (hb.some_ hl9)) ?_
    refine va rfl rfl rfl (q_ld (c := 0) (v := .int .u8 (((gt b i4).toNat : Nat) : Int)) (hb.byteT_at hl9).2 rfl Tryz.isAgg5 rfl rfl) ?_
    refine va rfl rfl rfl (q_conv Tryz.underlying67 Tryz.underlying5 rfl rfl) ?_
    refine va rfl rfl rfl (q_xor rfl rfl rfl) ?_
    refine va rfl rfl rfl (q_assign (v := .int .u64 (ixor .u64 h_1 (wu64 (((gt b i4).toNat : Nat) : Int)))) rfl (by kernel_rfl)) ?_
    refine WR.nil ?_
    change WC _ _ _ _ _ _
    refine WC.region ?_
    refine va rfl rfl rfl (q_move (v := .int .u64 (ixor .u64 h_1 (wu64 (((gt b i4).toNat : Nat) : Int)))) rfl (by kernel_rfl)) ?_
    refine va rfl rfl rfl (q_mul rfl rfl rfl) ?_
    refine va rfl rfl rfl (q_assign (v := .int .u64 (wu64 ((ixor .u64 h_1 (wu64 (((gt b i4).toNat : Nat) : Int))) * 1099511628211))) rfl (by kernel_rfl)) ?_
    refine WR.nil ?_
    change WC _ _ _ _ _ _
    refine WC.region ?_
    refine va rfl rfl rfl (q_move (v := .int .i64 ((i4 : Nat) : Int)) rfl (by kernel_rfl)) ?_
    refine va rfl rfl rfl (q_add_r (r := ((i4 + 1 : Nat) : Int)) rfl rfl rfl (ctr_len hl9 hb.le)) ?_
    refine va rfl rfl rfl (q_assign (v := .int .i64 ((i4 + 1 : Nat) : Int)) rfl (by kernel_rfl)) ?_
    refine WR.nil ?_
    intro w hw
    exact ⟨hl9, (wu64 ((ixor .u64 h_1 (wu64 (((gt b i4).toNat : Nat) : Int))) * 1099511628211)), h, (sl_ (by kernel_rfl)), hw, (wu64_r _), trivial⟩
  · skip
    have h := hge7 (ige hb8)
    refine WC.exit ?_
    change WC _ _ _ _ _ _
    refine WC.rs ?_
    refine va rfl rfl rfl (q_move (v := .int .u64 h_1) rfl (by kernel_rfl)) ?_
    refine va rfl rfl rfl (q_move (v := .int .u64 h_1) rfl (by kernel_rfl)) ?_
    refine va rfl rfl rfl (q_quo rfl rfl rfl (by decide)) ?_
    refine va rfl rfl rfl (q_xor rfl rfl rfl) ?_
    refine va rfl rfl rfl (q_assign (v := .int .u64 (ixor .u64 h_1 (wu64 (h_1.tdiv 8589934592)))) rfl (by kernel_rfl)) ?_
    refine WR.nil ?_
    change WC _ _ _ _ _ _
    refine WC.rs ?_
    refine va rfl rfl rfl (q_move (v := .int .u64 (ixor .u64 h_1 (wu64 (h_1.tdiv 8589934592)))) rfl (by kernel_rfl)) ?_
    refine va rfl rfl rfl (q_mul rfl rfl rfl) ?_
    refine va rfl rfl rfl (q_assign (v := .int .u64 (wu64 ((ixor .u64 h_1 (wu64 (h_1.tdiv 8589934592))) * 18397679294719823053))) rfl (by kernel_rfl)) ?_
    refine WR.nil ?_
    change WC _ _ _ _ _ _
    refine WC.rs ?_
    refine va rfl rfl rfl (q_move (v := .int .u64 (wu64 ((ixor .u64 h_1 (wu64 (h_1.tdiv 8589934592))) * 18397679294719823053))) rfl (by kernel_rfl)) ?_
    refine va rfl rfl rfl (q_move (v := .int .u64 (wu64 ((ixor .u64 h_1 (wu64 (h_1.tdiv 8589934592))) * 18397679294719823053))) rfl (by kernel_rfl)) ?_
    refine va rfl rfl rfl (q_quo rfl rfl rfl (by decide)) ?_
    refine va rfl rfl rfl (q_xor rfl rfl rfl) ?_
    refine va rfl rfl rfl (q_assign (v := .int .u64 (ixor .u64 (wu64 ((ixor .u64 h_1 (wu64 (h_1.tdiv 8589934592))) * 18397679294719823053)) (wu64 ((wu64 ((ixor .u64 h_1 (wu64 (h_1.tdiv 8589934592))) * 18397679294719823053)).tdiv 8589934592)))) rfl (by kernel_rfl)) ?_
    refine WR.nil ?_
    change WC _ _ _ _ _ _
    refine WC.ret ?_
    intro w hw
    obtain rfl := Option.some.inj h
    subst hF
    exact ⟨by kernel_rfl, hw.fr⟩
abbrev r_firthref11_Place (r : List Int) (U : List Rowb) (Γ : Gh) (v : Value) : Prop := ∃ (A0 : Option Addr), ∃ (c0 : Nat), ∃ (row0 : Rowb), v = .slice A0 r.length c0 ∧ U = [row0] ∧ Own intT Γ 3 row0 A0 c0 r ∧ True
set_option maxRecDepth 100000 in
set_option maxHeartbeats 400000 in
theorem t_firthref11_Place {Γ : Gh} {w0 : World} (key : ByteArray) (hkey : key.size ≤ lim) (hp : Pre [] Γ w0) {r : List Int} (h : m_firthref11_Place key = some r) : Calls Tryz.prog 31 #[.string key] w0 (Outc Γ [] w0 (r_firthref11_Place r)) := by
  refine calls_of (N := 15) (rs := [2]) (args := [.string key]) Tryz.func31 rfl Tryz.ntmps31 Tryz.results31 rfl ?_
  obtain ⟨F, hF⟩ : ∃ F : Fm, F = ⟨ids [], w0, Γ⟩ := ⟨_, rfl⟩
  refine WC.here (C := CC F Γ []) ?_ (hF ▸ hp.start)
  refine WC.rs ?_
  refine va rfl rfl rfl (q_assign (v := .slice none 0 0) rfl (by kernel_rfl)) ?_
  refine WR.nil ?_
  change WC _ _ _ _ _ _
  refine WC.rs ?_
  refine va rfl rfl rfl (q_move (v := .string key) rfl (by kernel_rfl)) ?_
  refine e_convB (src := 9) (dst := 97) (s := key) Tryz.underlying9 Tryz.underlying97 Tryz.underlying5 hkey rfl rfl rfl rfl rfl ?_
  intro Γ1 A2 c3 hl4 hs5 hc6
  obtain ⟨z7, hz8, h⟩ := bnd h
  refine vc rfl rfl rfl (q_call (call_run Tryz.call58 rfl rfl (by kernel_rfl)) (fun w hw => t_firthref01_Hash (Γ := Gh.all w) (hs5.mono hw.sat.le_all) hc6 (Sat.all w) hz8)) ?_
  refine va rfl rfl rfl (q_assign (v := .int .u64 z7) rfl (by kernel_rfl)) ?_
  refine WR.nil ?_
  change WC _ _ _ _ _ _
  refine WC.rs ?_
  refine va rfl rfl rfl (q_move (v := .int .u64 z7) rfl (by kernel_rfl)) ?_
  refine va rfl rfl rfl (q_quo rfl rfl rfl (by decide)) ?_
  refine va rfl rfl rfl (q_conv Tryz.underlying3 Tryz.underlying67 rfl rfl) ?_
  refine va rfl rfl rfl (q_move (v := .int .u64 z7) rfl (by kernel_rfl)) ?_
  refine va rfl rfl rfl (q_quo rfl rfl rfl (by decide)) ?_
  refine va rfl rfl rfl (q_rem rfl rfl rfl (by decide)) ?_
  refine va rfl rfl rfl (q_conv Tryz.underlying3 Tryz.underlying67 rfl rfl) ?_
  refine e_buildSlice (cs := #[.int .i64 (w64 (wu64 (z7.tdiv 1152921504606846976))), .int .i64 (w64 ((wu64 (z7.tdiv 72057594037927936)).tmod 16))]) (e := 3) rfl rfl rfl rfl (fun w => by kernel_rfl) ?_
  intro g9
  refine va rfl rfl rfl (q_assign (v := .slice (some ⟨g9, 0, none⟩) 2 2) rfl (by kernel_rfl)) ?_
  refine WR.nil ?_
  change WC _ _ _ _ _ _
  refine WC.ret ?_
  intro w hw
  have ho10 : Own intT Γ1 3 [(g9, .cells #[.int .i64 (w64 (wu64 (z7.tdiv 1152921504606846976))), .int .i64 (w64 ((wu64 (z7.tdiv 72057594037927936)).tmod 16))] 3 (0, 0))] (some ⟨g9, 0, none⟩) 2 [(w64 (wu64 (z7.tdiv 1152921504606846976))), (w64 ((wu64 (z7.tdiv 72057594037927936)).tmod 16))] := Own.of_blockL (T := intT) (ys := [(w64 (wu64 (z7.tdiv 1152921504606846976))), (w64 ((wu64 (z7.tdiv 72057594037927936)).tmod 16))]) [[.int .i64 (w64 (wu64 (z7.tdiv 1152921504606846976)))], [.int .i64 (w64 ((wu64 (z7.tdiv 72057594037927936)).tmod 16))]] rfl (show 2 ≤ lim by decide) (show Ty.rd intT Γ1 [.int .i64 (w64 (wu64 (z7.tdiv 1152921504606846976)))] (w64 (wu64 (z7.tdiv 1152921504606846976))) ∧ Ty.rd intT Γ1 [.int .i64 (w64 ((wu64 (z7.tdiv 72057594037927936)).tmod 16))] (w64 ((wu64 (z7.tdiv 72057594037927936)).tmod 16)) ∧ True from ⟨⟨rfl, (w64_r _)⟩, ⟨rfl, (w64_r _)⟩, trivial⟩)
  obtain rfl := Option.some.inj h
  subst hF
  exact end_e (is := [0]) (by kernel_rfl) hw rfl ⟨(some ⟨g9, 0, none⟩), 2, [(g9, .cells #[.int .i64 (w64 (wu64 (z7.tdiv 1152921504606846976))), .int .i64 (w64 ((wu64 (z7.tdiv 72057594037927936)).tmod 16))] 3 (0, 0))], rfl, rfl, ho10, trivial⟩
set_option maxRecDepth 100000 in
set_option maxHeartbeats 400000 in
theorem t_span_Right {Γ : Gh} {w0 : World} {Al : Option Addr} {cl : Nat} {l : List Span} (hl : Sl spanT Γ Al l) (hlc : l.length ≤ cl) (hs : Sat Γ w0) {r : Bool} (h : m_span_Right l = some r) : Calls Tryz.prog 111 #[.slice Al l.length cl] w0 (fun e w' => e = .returned (.bool r) ∧ Fr no w0 w') := by
  refine calls_of (N := 65) (rs := [2]) (args := [.slice Al l.length cl]) Tryz.func111 rfl Tryz.ntmps111 Tryz.results111 rfl ?_
  obtain ⟨F, hF⟩ : ∃ F : Fm, F = ⟨no, w0, Γ⟩ := ⟨_, rfl⟩
  refine WC.here (C := CC F Γ []) ?_ (hF ▸ Cur.start0 hs)
  refine WC.rs ?_
  refine va rfl rfl rfl (q_assign (v := .bool false) rfl (by kernel_rfl)) ?_
  refine WR.nil ?_
  change WC _ _ _ _ _ _
  refine WC.rs ?_
  refine va rfl rfl rfl (q_build (v := .agg #[.int .i64 0, .int .i64 0, .int .i64 0]) rfl (fun w => by kernel_rfl)) ?_
  refine e_alloc Tryz.zeroValue59 rfl rfl rfl rfl ?_
  intro g1
  refine e_st (i := 0) (v := .agg #[.int .i64 0, .int .i64 0, .int .i64 0]) (new := #[.int .i64 0, .int .i64 0, .int .i64 0]) rfl Tryz.sizeOf59 rfl rfl rfl rfl (by kernel_rfl) rfl rfl rfl rfl ?_
  refine WR.nil ?_
  change WC _ _ _ _ _ _
  refine WC.seq ?_
  refine WC.rs ?_
  refine va rfl rfl rfl (q_move (v := .slice Al l.length cl) rfl (by kernel_rfl)) ?_
  refine va rfl rfl rfl (q_len_slice rfl Tryz.underlying55 rfl) ?_
  refine va rfl rfl rfl (q_move (v := .int .i64 0) rfl (by kernel_rfl)) ?_
  refine WR.nil ?_
  change WC _ _ _ _ _ _
  refine WC.block ?_
  refine WC.forI h (fun (i5 : Nat) (x2 : Span) σ w => slots σ [(0, .slice Al l.length cl), (3, .pointer (some ⟨g1, 0, none⟩)), (7, .slice Al l.length cl), (8, .int .i64 ((l.length : Nat) : Int)), (9, .int .i64 ((i5 : Nat) : Int))] ∧ CC F Γ [[(g1, .cells #[.int .i64 x2.s, .int .i64 x2.f, .int .i64 x2.t] 59 (0, 0))]] w ∧ Span.fits Γ  x2 ∧ True) ?_ ?_
  · skip
    intro w hw
    exact ⟨(sl_ (by kernel_rfl)), hw, ⟨(show I64 0 by decide), (show I64 0 by decide), (show I64 0 by decide)⟩, trivial⟩
  rintro f4 i5 x2 σ w hi6 hlt7 hge8 ⟨hsl, hw, hf3, -⟩
  refine Wpt.slots hsl ?_
  refine WC.here (C := CC F Γ [[(g1, .cells #[.int .i64 x2.s, .int .i64 x2.f, .int .i64 x2.t] 59 (0, 0))]]) ?_ hw
  clear hw hsl
  refine WC.rs ?_
  refine va rfl rfl rfl (q_lss rfl rfl rfl) ?_
  refine WR.nil ?_
  change WC _ _ _ _ _ _
  refine WC.seq ?_
  refine WC.cond (b := (decide (((i5 : Nat) : Int) < ((l.length : Nat) : Int)))) (by kernel_rfl) (fun hb9 => ?_) (fun hb9 => ?_)
  · skip
    have hl10 := ilt hb9
    have h := hlt7 hl10
    refine WC.skip ?_
    change WC _ _ _ _ _ _
    refine WC.seq ?_
    refine WC.block ?_
    refine WC.rs ?_
    refine va rfl rfl rfl (q_ixn (i := i5) Tryz.underlying55 Tryz.sizeOf59 rfl rfl rfl hl10 (hl.some_ hl10)) ?_
    refine va rfl rfl rfl (q_lda (c := 0) (vs := [.int .i64 (gt l i5).s, .int .i64 (gt l i5).f, .int .i64 (gt l i5).t]) (hl.spanT_at hl10).2 rfl Tryz.isAgg59 Tryz.sizeOf59 rfl rfl rfl) ?_
    refine e_alloc Tryz.zeroValue59 rfl rfl rfl rfl ?_
    intro g11
    refine e_st (i := 0) (v := .agg #[.int .i64 (gt l i5).s, .int .i64 (gt l i5).f, .int .i64 (gt l i5).t]) (new := #[.int .i64 (gt l i5).s, .int .i64 (gt l i5).f, .int .i64 (gt l i5).t]) rfl Tryz.sizeOf59 rfl rfl rfl rfl (by kernel_rfl) rfl rfl rfl rfl ?_
    refine WR.nil ?_
    change WC _ _ _ _ _ _
    refine WC.seq ?_
    refine WC.rs ?_
    refine va rfl rfl rfl (q_fl 0 fld_59_0 rfl rfl rfl) ?_
    refine va rfl rfl rfl (q_ldl (i := 0) (v := .int .i64 (gt l i5).s) rfl rfl Tryz.isAgg3 rfl rfl) ?_
    refine va rfl rfl rfl (q_lss rfl rfl rfl) ?_
    refine va rfl rfl rfl (q_move (v := .bool (decide ((gt l i5).s < 1))) rfl (by kernel_rfl)) ?_
    refine vg0 rfl rfl rfl rfl rfl (fun hg12 => QV.qo (q_fl 0 fld_59_0 rfl rfl rfl)) ?_
    refine vg0 rfl rfl rfl rfl rfl (fun hg13 => QV.qo (q_ldl (i := 0) (v := .int .i64 (gt l i5).s) rfl rfl Tryz.isAgg3 (gu hg13 rfl) rfl)) ?_
    refine vg0 rfl rfl rfl rfl rfl (fun hg14 => QV.qo (q_gtr rfl (gu hg14 rfl) rfl)) ?_
    refine va rfl rfl rfl (q_pick rfl rfl (pk_or' (g := (decide ((gt l i5).s < 1))) (y := (decide (16 < (gt l i5).s))))) ?_
    refine va rfl rfl rfl (q_move (v := .bool ((decide ((gt l i5).s < 1)) || (decide (16 < (gt l i5).s)))) rfl (by kernel_rfl)) ?_
    refine vg0 rfl rfl rfl rfl rfl (fun hg15 => QV.qo (q_fl 1 fld_59_1 rfl rfl rfl)) ?_
    refine vg0 rfl rfl rfl rfl rfl (fun hg16 => QV.qo (q_ldl (i := 0) (v := .int .i64 (gt l i5).f) rfl rfl Tryz.isAgg2 (gu hg16 rfl) rfl)) ?_
    refine vg0 rfl rfl rfl rfl rfl (fun hg17 => QV.qo (q_lss rfl (gu hg17 rfl) rfl)) ?_
    refine va rfl rfl rfl (q_pick rfl rfl (pk_or' (g := ((decide ((gt l i5).s < 1)) || (decide (16 < (gt l i5).s)))) (y := (decide ((gt l i5).f < 1))))) ?_
    refine va rfl rfl rfl (q_move (v := .bool (((decide ((gt l i5).s < 1)) || (decide (16 < (gt l i5).s))) || (decide ((gt l i5).f < 1)))) rfl (by kernel_rfl)) ?_
    refine vg0 rfl rfl rfl rfl rfl (fun hg18 => QV.qo (q_fl 1 fld_59_1 rfl rfl rfl)) ?_
    refine vg0 rfl rfl rfl rfl rfl (fun hg19 => QV.qo (q_ldl (i := 0) (v := .int .i64 (gt l i5).f) rfl rfl Tryz.isAgg2 (gu hg19 rfl) rfl)) ?_
    refine vg0 rfl rfl rfl rfl rfl (fun hg20 => QV.qo (q_fl 2 fld_59_2 rfl rfl rfl)) ?_
    refine vg0 rfl rfl rfl rfl rfl (fun hg21 => QV.qo (q_ldl (i := 0) (v := .int .i64 (gt l i5).t) rfl rfl Tryz.isAgg2 (gu hg21 rfl) rfl)) ?_
    refine vg0 rfl rfl rfl rfl rfl (fun hg22 => QV.qo (q_gtr rfl (gu hg22 rfl) (gu hg22 rfl))) ?_
    refine va rfl rfl rfl (q_pick rfl rfl (pk_or' (g := (((decide ((gt l i5).s < 1)) || (decide (16 < (gt l i5).s))) || (decide ((gt l i5).f < 1)))) (y := (decide ((gt l i5).t < (gt l i5).f))))) ?_
    refine va rfl rfl rfl (q_move (v := .bool ((((decide ((gt l i5).s < 1)) || (decide (16 < (gt l i5).s))) || (decide ((gt l i5).f < 1))) || (decide ((gt l i5).t < (gt l i5).f)))) rfl (by kernel_rfl)) ?_
    refine vg0 rfl rfl rfl rfl rfl (fun hg23 => QV.qo (q_fl 2 fld_59_2 rfl rfl rfl)) ?_
    refine vg0 rfl rfl rfl rfl rfl (fun hg24 => QV.qo (q_ldl (i := 0) (v := .int .i64 (gt l i5).t) rfl rfl Tryz.isAgg2 (gu hg24 rfl) rfl)) ?_
    refine vg0 rfl rfl rfl rfl rfl (fun hg25 => QV.qo (q_gtr rfl (gu hg25 rfl) rfl)) ?_
    refine va rfl rfl rfl (q_pick rfl rfl (pk_or' (g := ((((decide ((gt l i5).s < 1)) || (decide (16 < (gt l i5).s))) || (decide ((gt l i5).f < 1))) || (decide ((gt l i5).t < (gt l i5).f)))) (y := (decide (4611686018427387904 < (gt l i5).t))))) ?_
    refine va rfl rfl rfl (q_move (v := .bool (((((decide ((gt l i5).s < 1)) || (decide (16 < (gt l i5).s))) || (decide ((gt l i5).f < 1))) || (decide ((gt l i5).t < (gt l i5).f))) || (decide (4611686018427387904 < (gt l i5).t)))) rfl (by kernel_rfl)) ?_
    refine vg0 rfl rfl rfl rfl rfl (fun hg26 => QV.qo (q_fl 0 fld_59_0 rfl rfl rfl)) ?_
    refine vg0 rfl rfl rfl rfl rfl (fun hg27 => QV.qo (q_ldl (i := 0) (v := .int .i64 (gt l i5).s) rfl rfl Tryz.isAgg3 (gu hg27 rfl) rfl)) ?_
    refine vg0 rfl rfl rfl rfl rfl (fun hg28 => QV.qo (q_fl 0 fld_59_0 rfl rfl rfl)) ?_
    refine vg0 rfl rfl rfl rfl rfl (fun hg29 => QV.qo (q_ldl (i := 1) (v := .int .i64 x2.s) rfl rfl Tryz.isAgg3 (gu hg29 rfl) rfl)) ?_
    refine vg0 rfl rfl rfl rfl rfl (fun hg30 => QV.qo (q_lss rfl (gu hg30 rfl) (gu hg30 rfl))) ?_
    refine va rfl rfl rfl (q_pick rfl rfl (pk_or' (g := (((((decide ((gt l i5).s < 1)) || (decide (16 < (gt l i5).s))) || (decide ((gt l i5).f < 1))) || (decide ((gt l i5).t < (gt l i5).f))) || (decide (4611686018427387904 < (gt l i5).t)))) (y := (decide ((gt l i5).s < x2.s))))) ?_
    refine va rfl rfl rfl (q_move (v := .bool ((((((decide ((gt l i5).s < 1)) || (decide (16 < (gt l i5).s))) || (decide ((gt l i5).f < 1))) || (decide ((gt l i5).t < (gt l i5).f))) || (decide (4611686018427387904 < (gt l i5).t))) || (decide ((gt l i5).s < x2.s)))) rfl (by kernel_rfl)) ?_
    refine vg0 rfl rfl rfl rfl rfl (fun hg31 => QV.qo (q_fl 0 fld_59_0 rfl rfl rfl)) ?_
    refine vg0 rfl rfl rfl rfl rfl (fun hg32 => QV.qo (q_ldl (i := 0) (v := .int .i64 (gt l i5).s) rfl rfl Tryz.isAgg3 (gu hg32 rfl) rfl)) ?_
    refine vg0 rfl rfl rfl rfl rfl (fun hg33 => QV.qo (q_fl 0 fld_59_0 rfl rfl rfl)) ?_
    refine vg0 rfl rfl rfl rfl rfl (fun hg34 => QV.qo (q_ldl (i := 1) (v := .int .i64 x2.s) rfl rfl Tryz.isAgg3 (gu hg34 rfl) rfl)) ?_
    refine vg0 rfl rfl rfl rfl rfl (fun hg35 => QV.qo (q_eql rfl (gu hg35 rfl) (gu hg35 rfl))) ?_
    refine vg0 rfl rfl rfl rfl rfl (fun hg36 => QV.qo (q_move (v := .bool ((gt l i5).s == x2.s)) rfl (gu hg36 rfl))) ?_
    refine vh1 (c0 := (!((((((decide ((gt l i5).s < 1)) || (decide (16 < (gt l i5).s))) || (decide ((gt l i5).f < 1))) || (decide ((gt l i5).t < (gt l i5).f))) || (decide (4611686018427387904 < (gt l i5).t))) || (decide ((gt l i5).s < x2.s))))) (g := ((gt l i5).s == x2.s)) rfl rfl rfl rfl rfl (fun hg37 => QV.qo (q_fl 1 fld_59_1 rfl rfl rfl)) ?_
    refine vh1 (c0 := (!((((((decide ((gt l i5).s < 1)) || (decide (16 < (gt l i5).s))) || (decide ((gt l i5).f < 1))) || (decide ((gt l i5).t < (gt l i5).f))) || (decide (4611686018427387904 < (gt l i5).t))) || (decide ((gt l i5).s < x2.s))))) (g := ((gt l i5).s == x2.s)) rfl rfl rfl rfl rfl (fun hg38 => QV.qo (q_ldl (i := 0) (v := .int .i64 (gt l i5).f) rfl rfl Tryz.isAgg2 (gu hg38 rfl) rfl)) ?_
    refine vh1 (c0 := (!((((((decide ((gt l i5).s < 1)) || (decide (16 < (gt l i5).s))) || (decide ((gt l i5).f < 1))) || (decide ((gt l i5).t < (gt l i5).f))) || (decide (4611686018427387904 < (gt l i5).t))) || (decide ((gt l i5).s < x2.s))))) (g := ((gt l i5).s == x2.s)) rfl rfl rfl rfl rfl (fun hg39 => QV.qo (q_fl 2 fld_59_2 rfl rfl rfl)) ?_
    refine vh1 (c0 := (!((((((decide ((gt l i5).s < 1)) || (decide (16 < (gt l i5).s))) || (decide ((gt l i5).f < 1))) || (decide ((gt l i5).t < (gt l i5).f))) || (decide (4611686018427387904 < (gt l i5).t))) || (decide ((gt l i5).s < x2.s))))) (g := ((gt l i5).s == x2.s)) rfl rfl rfl rfl rfl (fun hg40 => QV.qo (q_ldl (i := 1) (v := .int .i64 x2.t) rfl rfl Tryz.isAgg2 (gu hg40 rfl) rfl)) ?_
    refine vh1 (c0 := (!((((((decide ((gt l i5).s < 1)) || (decide (16 < (gt l i5).s))) || (decide ((gt l i5).f < 1))) || (decide ((gt l i5).t < (gt l i5).f))) || (decide (4611686018427387904 < (gt l i5).t))) || (decide ((gt l i5).s < x2.s))))) (g := ((gt l i5).s == x2.s)) rfl rfl rfl rfl rfl (fun hg41 => QV.qo (q_add rfl (gu hg41 rfl) rfl)) ?_
    refine vh1 (c0 := (!((((((decide ((gt l i5).s < 1)) || (decide (16 < (gt l i5).s))) || (decide ((gt l i5).f < 1))) || (decide ((gt l i5).t < (gt l i5).f))) || (decide (4611686018427387904 < (gt l i5).t))) || (decide ((gt l i5).s < x2.s))))) (g := ((gt l i5).s == x2.s)) rfl rfl rfl rfl rfl (fun hg42 => QV.qo (q_leq rfl (gu hg42 rfl) (gu hg42 rfl))) ?_
    refine vg0 rfl rfl rfl rfl rfl (fun hg43 => QV.qo (q_pick rfl (gu hg43 rfl) (pk_and (c := (!((((((decide ((gt l i5).s < 1)) || (decide (16 < (gt l i5).s))) || (decide ((gt l i5).f < 1))) || (decide ((gt l i5).t < (gt l i5).f))) || (decide (4611686018427387904 < (gt l i5).t))) || (decide ((gt l i5).s < x2.s))))) (g := ((gt l i5).s == x2.s)) (y := (decide ((gt l i5).f ≤ (w64 (x2.t + 1))))) hg43))) ?_
    refine va rfl rfl rfl (q_pick rfl rfl (pk_or' (g := ((((((decide ((gt l i5).s < 1)) || (decide (16 < (gt l i5).s))) || (decide ((gt l i5).f < 1))) || (decide ((gt l i5).t < (gt l i5).f))) || (decide (4611686018427387904 < (gt l i5).t))) || (decide ((gt l i5).s < x2.s)))) (y := (((gt l i5).s == x2.s) && (decide ((gt l i5).f ≤ (w64 (x2.t + 1)))))))) ?_
    refine WR.nil ?_
    change WC _ _ _ _ _ _
    refine WC.cif h (by kernel_rfl) (fun hb44 h => ?_) (fun hb44 h => ?_)
    · skip
      refine WC.rs ?_
      refine va rfl rfl rfl (q_assign (v := .bool false) rfl (by kernel_rfl)) ?_
      refine WR.nil ?_
      change WC _ _ _ _ _ _
      refine WC.ret ?_
      intro w hw
      obtain rfl := Option.some.inj h
      subst hF
      exact ⟨by kernel_rfl, hw.fr⟩
    · skip
      refine WC.skip ?_
      change WC _ _ _ _ _ _
      refine WC.region ?_
      refine va rfl rfl rfl (q_ldla (i := 0) (vs := [.int .i64 (gt l i5).s, .int .i64 (gt l i5).f, .int .i64 (gt l i5).t]) rfl rfl Tryz.isAgg59 Tryz.sizeOf59 rfl rfl) ?_
      refine e_st (i := 1) (v := .agg #[.int .i64 (gt l i5).s, .int .i64 (gt l i5).f, .int .i64 (gt l i5).t]) (new := #[.int .i64 (gt l i5).s, .int .i64 (gt l i5).f, .int .i64 (gt l i5).t]) rfl Tryz.sizeOf59 rfl rfl rfl rfl (by kernel_rfl) rfl rfl rfl rfl ?_
      refine WR.nil ?_
      change WC _ _ _ _ _ _
      refine WC.region ?_
      refine va rfl rfl rfl (q_add_r (r := ((i5 + 1 : Nat) : Int)) rfl rfl rfl (ctr_len hl10 hl.le)) ?_
      refine va rfl rfl rfl (q_move (v := .int .i64 ((i5 + 1 : Nat) : Int)) rfl (by kernel_rfl)) ?_
      refine WR.nil ?_
      intro w hw
      exact ⟨hl10, (gt l i5), h, (sl_ (by kernel_rfl)), (hw.only (is := [1]) rfl), (hl.spanT_at hl10).1, trivial⟩
  · skip
    have h := hge8 (ige hb9)
    refine WC.exit ?_
    change WC _ _ _ _ _ _
    refine WC.rs ?_
    refine va rfl rfl rfl (q_move (v := .slice Al l.length cl) rfl (by kernel_rfl)) ?_
    refine va rfl rfl rfl (q_len_slice rfl Tryz.underlying55 rfl) ?_
    refine va rfl rfl rfl (q_leq rfl rfl rfl) ?_
    refine va rfl rfl rfl (q_assign (v := .bool (decide (((l.length : Nat) : Int) ≤ 1024))) rfl (by kernel_rfl)) ?_
    refine WR.nil ?_
    change WC _ _ _ _ _ _
    refine WC.ret ?_
    intro w hw
    obtain rfl := Option.some.inj h
    subst hF
    exact ⟨by kernel_rfl, hw.fr⟩
set_option maxRecDepth 100000 in
set_option maxHeartbeats 400000 in
theorem t_span_Top {Γ : Gh} {w0 : World} {Al : Option Addr} {cl : Nat} {l : List Span} (hl : Sl spanT Γ Al l) (hlc : l.length ≤ cl) (s_ : Int) (hs_ : I64 s_) (hs : Sat Γ w0) {r : Int} (h : m_span_Top l s_ = some r) : Calls Tryz.prog 112 #[.slice Al l.length cl, .int .i64 s_] w0 (fun e w' => e = .returned (.int .i64 r) ∧ Fr no w0 w') := by
  refine calls_of (N := 24) (rs := [4]) (args := [.slice Al l.length cl, .int .i64 s_]) Tryz.func112 rfl Tryz.ntmps112 Tryz.results112 rfl ?_
  obtain ⟨F, hF⟩ : ∃ F : Fm, F = ⟨no, w0, Γ⟩ := ⟨_, rfl⟩
  refine WC.here (C := CC F Γ []) ?_ (hF ▸ Cur.start0 hs)
  refine WC.rs ?_
  refine va rfl rfl rfl (q_assign (v := .int .i64 0) rfl (by kernel_rfl)) ?_
  refine WR.nil ?_
  change WC _ _ _ _ _ _
  refine WC.rs ?_
  refine va rfl rfl rfl (q_assign (v := .int .i64 0) rfl (by kernel_rfl)) ?_
  refine WR.nil ?_
  change WC _ _ _ _ _ _
  refine WC.seq ?_
  refine WC.rs ?_
  refine va rfl rfl rfl (q_move (v := .slice Al l.length cl) rfl (by kernel_rfl)) ?_
  refine va rfl rfl rfl (q_len_slice rfl Tryz.underlying55 rfl) ?_
  refine va rfl rfl rfl (q_move (v := .int .i64 0) rfl (by kernel_rfl)) ?_
  refine WR.nil ?_
  change WC _ _ _ _ _ _
  refine WC.block ?_
  refine WC.forI h (fun (i4 : Nat) (top_1 : Int) σ w => slots σ [(1, .int .i64 s_), (5, .int .i64 top_1), (8, .slice Al l.length cl), (9, .int .i64 ((l.length : Nat) : Int)), (10, .int .i64 ((i4 : Nat) : Int))] ∧ CC F Γ [] w ∧ I64 top_1 ∧ True) ?_ ?_
  · skip
    intro w hw
    exact ⟨(sl_ (by kernel_rfl)), hw, (show I64 0 by decide), trivial⟩
  rintro f3 i4 top_1 σ w hi5 hlt6 hge7 ⟨hsl, hw, hr2, -⟩
  refine Wpt.slots hsl ?_
  refine WC.here (C := CC F Γ []) ?_ hw
  clear hw hsl
  refine WC.rs ?_
  refine va rfl rfl rfl (q_lss rfl rfl rfl) ?_
  refine WR.nil ?_
  change WC _ _ _ _ _ _
  refine WC.seq ?_
  refine WC.cond (b := (decide (((i4 : Nat) : Int) < ((l.length : Nat) : Int)))) (by kernel_rfl) (fun hb8 => ?_) (fun hb8 => ?_)
  · skip
    have hl9 := ilt hb8
    have h := hlt6 hl9
    refine WC.skip ?_
    change WC _ _ _ _ _ _
    refine WC.cut (fun σ w => ∃ (top_10 : Int), m_span_Top_j6 f3 top_10 = some r ∧ slots σ [(1, .int .i64 s_), (5, .int .i64 top_10), (8, .slice Al l.length cl), (9, .int .i64 ((l.length : Nat) : Int)), (10, .int .i64 ((i4 : Nat) : Int))] ∧ CC F Γ [] w ∧ I64 top_10 ∧ True) ?_ ?_
    · skip
      refine WC.block ?_
      refine WC.rs ?_
      refine va rfl rfl rfl (q_ixn (i := i4) Tryz.underlying55 Tryz.sizeOf59 rfl rfl rfl hl9 (hl.some_ hl9)) ?_
      refine va rfl rfl rfl (q_lda (c := 0) (vs := [.int .i64 (gt l i4).s, .int .i64 (gt l i4).f, .int .i64 (gt l i4).t]) (hl.spanT_at hl9).2 rfl Tryz.isAgg59 Tryz.sizeOf59 rfl rfl rfl) ?_
      refine e_alloc Tryz.zeroValue59 rfl rfl rfl rfl ?_
      intro g12
      refine e_st (i := 0) (v := .agg #[.int .i64 (gt l i4).s, .int .i64 (gt l i4).f, .int .i64 (gt l i4).t]) (new := #[.int .i64 (gt l i4).s, .int .i64 (gt l i4).f, .int .i64 (gt l i4).t]) rfl Tryz.sizeOf59 rfl rfl rfl rfl (by kernel_rfl) rfl rfl rfl rfl ?_
      refine WR.nil ?_
      change WC _ _ _ _ _ _
      refine WC.rs ?_
      refine va rfl rfl rfl (q_fl 0 fld_59_0 rfl rfl rfl) ?_
      refine va rfl rfl rfl (q_ldl (i := 0) (v := .int .i64 (gt l i4).s) rfl rfl Tryz.isAgg3 rfl rfl) ?_
      refine va rfl rfl rfl (q_move (v := .int .i64 s_) rfl (by kernel_rfl)) ?_
      refine va rfl rfl rfl (q_eql rfl rfl rfl) ?_
      refine WR.nil ?_
      change WC _ _ _ _ _ _
      refine WC.cif h (by kernel_rfl) (fun hb13 h => ?_) (fun hb13 h => ?_)
      · skip
        refine WC.region ?_
        refine va rfl rfl rfl (q_move (v := .int .i64 top_1) rfl (by kernel_rfl)) ?_
        refine va rfl rfl rfl (q_fl 2 fld_59_2 rfl rfl rfl) ?_
        refine va rfl rfl rfl (q_ldl (i := 0) (v := .int .i64 (gt l i4).t) rfl rfl Tryz.isAgg2 rfl rfl) ?_
        refine va rfl rfl rfl (q_max rfl rfl rfl) ?_
        refine va rfl rfl rfl (q_assign (v := .int .i64 (max top_1 (gt l i4).t)) rfl (by kernel_rfl)) ?_
        refine WR.nil ?_
        intro w hw
        exact ⟨(max top_1 (gt l i4).t), h, (sl_ (by kernel_rfl)), (hw.only (is := []) rfl), (max_r hr2 (hl.spanT_at hl9).1.2.2), trivial⟩
      · skip
        refine WC.skip ?_
        intro w hw
        exact ⟨top_1, h, (sl_ (by kernel_rfl)), (hw.only (is := []) rfl), hr2, trivial⟩
    · skip
      rintro σ w ⟨top_10, h, hsl, hw, hr11, -⟩
      refine Wpt.slots hsl ?_
      refine WC.here (C := CC F Γ []) ?_ hw
      clear hw hsl
      refine WC.region ?_
      refine va rfl rfl rfl (q_add_r (r := ((i4 + 1 : Nat) : Int)) rfl rfl rfl (ctr_len hl9 hl.le)) ?_
      refine va rfl rfl rfl (q_move (v := .int .i64 ((i4 + 1 : Nat) : Int)) rfl (by kernel_rfl)) ?_
      refine WR.nil ?_
      intro w hw
      exact ⟨hl9, top_10, h, (sl_ (by kernel_rfl)), hw, hr11, trivial⟩
  · skip
    have h := hge7 (ige hb8)
    refine WC.exit ?_
    change WC _ _ _ _ _ _
    refine WC.rs ?_
    refine va rfl rfl rfl (q_move (v := .int .i64 top_1) rfl (by kernel_rfl)) ?_
    refine va rfl rfl rfl (q_assign (v := .int .i64 top_1) rfl (by kernel_rfl)) ?_
    refine WR.nil ?_
    change WC _ _ _ _ _ _
    refine WC.ret ?_
    intro w hw
    obtain rfl := Option.some.inj h
    subst hF
    exact ⟨by kernel_rfl, hw.fr⟩
set_option maxRecDepth 100000 in
set_option maxHeartbeats 400000 in
theorem t_vers_RightOne {Γ : Gh} {w0 : World} {Av_2 : Option Addr} {cv_2 : Nat} (v_ : Ver) (hv_ : Ver.fits Γ Av_2 cv_2 v_) (hs : Sat Γ w0) {r : Bool} (h : m_vers_RightOne v_ = some r) : Calls Tryz.prog 96 #[.agg #[.int .i64 v_.dot.s, .int .i64 v_.dot.n, .slice Av_2 v_.past.length cv_2, .bool v_.gone, .string v_.val]] w0 (fun e w' => e = .returned (.bool r) ∧ Fr no w0 w') := by
  refine calls_of (N := 50) (rs := [2]) (args := [.agg #[.int .i64 v_.dot.s, .int .i64 v_.dot.n, .slice Av_2 v_.past.length cv_2, .bool v_.gone, .string v_.val]]) Tryz.func96 rfl Tryz.ntmps96 Tryz.results96 rfl ?_
  obtain ⟨F, hF⟩ : ∃ F : Fm, F = ⟨no, w0, Γ⟩ := ⟨_, rfl⟩
  refine WC.here (C := CC F Γ []) ?_ (hF ▸ Cur.start0 hs)
  refine WC.rs ?_
  refine e_box (v := .agg #[.int .i64 v_.dot.s, .int .i64 v_.dot.n, .slice Av_2 v_.past.length cv_2, .bool v_.gone, .string v_.val]) rfl rfl rfl rfl (by kernel_rfl) ?_
  intro g1
  refine va rfl rfl rfl (q_assign (v := .bool false) rfl (by kernel_rfl)) ?_
  refine WR.nil ?_
  change WC _ _ _ _ _ _
  refine WC.rs ?_
  refine va rfl rfl rfl (q_fl 0 fld_57_0 rfl rfl rfl) ?_
  refine va rfl rfl rfl (q_fl 0 fld_54_0 rfl rfl rfl) ?_
  refine va rfl rfl rfl (q_ldl (i := 0) (v := .int .i64 v_.dot.s) rfl rfl Tryz.isAgg3 rfl rfl) ?_
  refine va rfl rfl rfl (q_fl 0 fld_57_0 rfl rfl rfl) ?_
  refine va rfl rfl rfl (q_fl 1 fld_54_1 rfl rfl rfl) ?_
  refine va rfl rfl rfl (q_ldl (i := 0) (v := .int .i64 v_.dot.n) rfl rfl Tryz.isAgg2 rfl rfl) ?_
  refine va rfl rfl rfl (q_fl 0 fld_57_0 rfl rfl rfl) ?_
  refine va rfl rfl rfl (q_fl 1 fld_54_1 rfl rfl rfl) ?_
  refine va rfl rfl rfl (q_ldl (i := 0) (v := .int .i64 v_.dot.n) rfl rfl Tryz.isAgg2 rfl rfl) ?_
  refine va rfl rfl rfl (q_build' (v := .agg #[.int .i64 v_.dot.s, .int .i64 v_.dot.n, .int .i64 v_.dot.n]) rfl (bargs3 rfl rfl rfl) (fun w => by kernel_rfl)) ?_
  refine e_alloc Tryz.zeroValue59 rfl rfl rfl rfl ?_
  intro g2
  refine e_st (i := 0) (v := .agg #[.int .i64 v_.dot.s, .int .i64 v_.dot.n, .int .i64 v_.dot.n]) (new := #[.int .i64 v_.dot.s, .int .i64 v_.dot.n, .int .i64 v_.dot.n]) rfl Tryz.sizeOf59 rfl rfl rfl rfl (by kernel_rfl) rfl rfl rfl rfl ?_
  refine WR.nil ?_
  change WC _ _ _ _ _ _
  refine WC.seq ?_
  intro w hw; have h03 := hw.le
  refine WC.here (C := CC F Γ [[(g2, .cells #[.int .i64 v_.dot.s, .int .i64 v_.dot.n, .int .i64 v_.dot.n] 59 (0, 0))], [(g1, .cells #[.int .i64 v_.dot.s, .int .i64 v_.dot.n, .slice Av_2 v_.past.length cv_2, .bool v_.gone, .string v_.val] 57 (0, 0))]]) ?_ hw; clear hw
  refine WC.held (CC F Γ [[(g2, .cells #[.int .i64 v_.dot.s, .int .i64 v_.dot.n, .int .i64 v_.dot.n] 59 (0, 0))], [(g1, .cells #[.int .i64 v_.dot.s, .int .i64 v_.dot.n, .slice Av_2 v_.past.length cv_2, .bool v_.gone, .string v_.val] 57 (0, 0))]]) (by kernel_rfl) (fun w hw => hw.drawn _) ?_
  change WH _ _ _ _ (CC F Γ [[(g2, .cells #[.int .i64 v_.dot.s, .int .i64 v_.dot.n, .int .i64 v_.dot.n] 59 (0, 0))], [(g1, .cells #[.int .i64 v_.dot.s, .int .i64 v_.dot.n, .slice Av_2 v_.past.length cv_2, .bool v_.gone, .string v_.val] 57 (0, 0))]]) _ 37 #[false, false, false, false, false, false, false, false, false, false, false, false, false, false, false, false, false, false, false, false, false, false, false, false, false, false, false, false, false, false, false, false, false, false, false, false, false] _
  refine ht (i := 0) rfl (by kernel_rfl) rfl rfl rfl (fun w hw => hw.back (Gh.refl _) h03 (.cons_cons _ (.cons_cons _ .slnil))) (q_ldla (i := 0) (vs := [.int .i64 v_.dot.s, .int .i64 v_.dot.n, .int .i64 v_.dot.n]) rfl rfl Tryz.isAgg59 Tryz.sizeOf59 rfl rfl) ?_
  refine WH.lone (i := 1) (by kernel_rfl) rfl ?_
  refine e_buildSlice (cs := #[.int .i64 v_.dot.s, .int .i64 v_.dot.n, .int .i64 v_.dot.n]) (e := 59) rfl rfl rfl rfl (fun w => by kernel_rfl) ?_
  intro g4
  refine WR.nil ?_
  refine WH.next (fun w hw => hw.back (Gh.refl _) h03 (.cons _ (.cons_cons _ (.cons_cons _ .slnil)))) ?_
  refine WH.lone (i := 2) (by kernel_rfl) rfl ?_
  have ho5 : Own spanT Γ 59 [(g4, .cells #[.int .i64 v_.dot.s, .int .i64 v_.dot.n, .int .i64 v_.dot.n] 59 (0, 0))] (some ⟨g4, 0, none⟩) 1 [(⟨v_.dot.s, v_.dot.n, v_.dot.n⟩ : Span)] := Own.of_blockL (T := spanT) (ys := [(⟨v_.dot.s, v_.dot.n, v_.dot.n⟩ : Span)]) [[.int .i64 v_.dot.s, .int .i64 v_.dot.n, .int .i64 v_.dot.n]] rfl (show 1 ≤ lim by decide) (show Ty.rd spanT Γ [.int .i64 v_.dot.s, .int .i64 v_.dot.n, .int .i64 v_.dot.n] (⟨v_.dot.s, v_.dot.n, v_.dot.n⟩ : Span) ∧ True from ⟨⟨rfl, ⟨hv_.1, hv_.2.1, hv_.2.1⟩⟩, trivial⟩)
  obtain ⟨z6, hz7, h⟩ := bnd h
  refine vc rfl rfl rfl (q_call (call_run Tryz.call111 rfl rfl (by kernel_rfl)) (fun w hw => t_span_Right (Γ := Gh.all w) (ho5.sl hw.sat.le_all (hw.ra 0 rfl)) ho5.capz (Sat.all w) hz7)) ?_
  refine WR.nil ?_
  refine WH.next (fun w hw => hw.back (Gh.refl _) h03 (.cons _ (.cons_cons _ (.cons_cons _ .slnil)))) ?_
  refine ht (i := 3) rfl (by kernel_rfl) rfl rfl rfl (fun w hw => hw.back (Gh.refl _) h03 (.cons _ (.cons_cons _ (.cons_cons _ .slnil)))) (q_move (v := .bool z6) rfl (by kernel_rfl)) ?_
  refine hg1 (i := 4) rfl (by kernel_rfl) rfl rfl rfl rfl rfl (fun w hw => hw.back (Gh.refl _) h03 (.cons _ (.cons_cons _ (.cons_cons _ .slnil)))) (fun hg8 => (q_fl 2 fld_57_1 rfl rfl rfl)) ?_
  refine hg1 (i := 5) rfl (by kernel_rfl) rfl rfl rfl rfl rfl (fun w hw => hw.back (Gh.refl _) h03 (.cons _ (.cons_cons _ (.cons_cons _ .slnil)))) (fun hg9 => (q_ldl (i := 1) (v := .slice Av_2 v_.past.length cv_2) rfl rfl Tryz.isAgg55 (gu hg9 rfl) rfl)) ?_
  refine WH.lone (i := 6) (by kernel_rfl) rfl ?_
  obtain ⟨z11, hz12, h⟩ := bnd h
  refine vg1 rfl rfl rfl rfl rfl (fun hg10 => (q_call (call_run Tryz.call111 rfl rfl (args1 (gu hg10 rfl))) (fun w hw => t_span_Right (Γ := Gh.all w) (hv_.2.2.1.2.mono hw.sat.le_all) hv_.2.2.1.1 (Sat.all w) (gc_of hz12 hg10)))) ?_
  refine WR.nil ?_
  refine WH.next (fun w hw => hw.back (Gh.refl _) h03 (.cons _ (.cons_cons _ (.cons_cons _ .slnil)))) ?_
  refine ht (i := 7) rfl (by kernel_rfl) rfl rfl rfl (fun w hw => hw.back (Gh.refl _) h03 (.cons _ (.cons_cons _ (.cons_cons _ .slnil)))) (q_pick rfl rfl (pk_and' (g := z6) (y := z11))) ?_
  refine ht (i := 8) rfl (by kernel_rfl) rfl rfl rfl (fun w hw => hw.back (Gh.refl _) h03 (.cons _ (.cons_cons _ (.cons_cons _ .slnil)))) (q_move (v := .bool (z6 && z11)) rfl (by kernel_rfl)) ?_
  refine hg1 (i := 9) rfl (by kernel_rfl) rfl rfl rfl rfl rfl (fun w hw => hw.back (Gh.refl _) h03 (.cons _ (.cons_cons _ (.cons_cons _ .slnil)))) (fun hg13 => (q_fl 2 fld_57_1 rfl rfl rfl)) ?_
  refine hg1 (i := 10) rfl (by kernel_rfl) rfl rfl rfl rfl rfl (fun w hw => hw.back (Gh.refl _) h03 (.cons _ (.cons_cons _ (.cons_cons _ .slnil)))) (fun hg14 => (q_ldl (i := 1) (v := .slice Av_2 v_.past.length cv_2) rfl rfl Tryz.isAgg55 (gu hg14 rfl) rfl)) ?_
  refine hg1 (i := 11) rfl (by kernel_rfl) rfl rfl rfl rfl rfl (fun w hw => hw.back (Gh.refl _) h03 (.cons _ (.cons_cons _ (.cons_cons _ .slnil)))) (fun hg15 => (q_fl 0 fld_57_0 rfl rfl rfl)) ?_
  refine hg1 (i := 12) rfl (by kernel_rfl) rfl rfl rfl rfl rfl (fun w hw => hw.back (Gh.refl _) h03 (.cons _ (.cons_cons _ (.cons_cons _ .slnil)))) (fun hg16 => (q_fl 0 fld_54_0 rfl (gu hg16 rfl) rfl)) ?_
  refine hg1 (i := 13) rfl (by kernel_rfl) rfl rfl rfl rfl rfl (fun w hw => hw.back (Gh.refl _) h03 (.cons _ (.cons_cons _ (.cons_cons _ .slnil)))) (fun hg17 => (q_ldl (i := 1) (v := .int .i64 v_.dot.s) rfl rfl Tryz.isAgg3 (gu hg17 rfl) rfl)) ?_
  refine hg1 (i := 15) rfl (by kernel_rfl) rfl rfl rfl rfl rfl (fun w hw => hw.back (Gh.refl _) h03 (.cons _ (.cons_cons _ (.cons_cons _ .slnil)))) (fun hg18 => (q_fl 0 fld_57_0 rfl rfl rfl)) ?_
  refine hg1 (i := 16) rfl (by kernel_rfl) rfl rfl rfl rfl rfl (fun w hw => hw.back (Gh.refl _) h03 (.cons _ (.cons_cons _ (.cons_cons _ .slnil)))) (fun hg19 => (q_fl 1 fld_54_1 rfl (gu hg19 rfl) rfl)) ?_
  refine hg1 (i := 17) rfl (by kernel_rfl) rfl rfl rfl rfl rfl (fun w hw => hw.back (Gh.refl _) h03 (.cons _ (.cons_cons _ (.cons_cons _ .slnil)))) (fun hg20 => (q_ldl (i := 1) (v := .int .i64 v_.dot.n) rfl rfl Tryz.isAgg2 (gu hg20 rfl) rfl)) ?_
  refine WH.lone (i := 14) (by kernel_rfl) rfl ?_
  obtain ⟨z22, hz23, h⟩ := bnd h
  refine vg1 rfl rfl rfl rfl rfl (fun hg21 => (q_call (call_run Tryz.call112 rfl rfl (args2 (gu hg21 rfl) (gu hg21 rfl))) (fun w hw => t_span_Top (Γ := Gh.all w) (hv_.2.2.1.2.mono hw.sat.le_all) hv_.2.2.1.1 v_.dot.s hv_.1 (Sat.all w) (gc_of hz23 hg21)))) ?_
  refine WR.nil ?_
  refine WH.next (fun w hw => hw.back (Gh.refl _) h03 (.cons _ (.cons_cons _ (.cons_cons _ .slnil)))) ?_
  refine hg1 (i := 18) rfl (by kernel_rfl) rfl rfl rfl rfl rfl (fun w hw => hw.back (Gh.refl _) h03 (.cons _ (.cons_cons _ (.cons_cons _ .slnil)))) (fun hg24 => (q_lss rfl (gu hg24 rfl) (gu hg24 rfl))) ?_
  refine ht (i := 19) rfl (by kernel_rfl) rfl rfl rfl (fun w hw => hw.back (Gh.refl _) h03 (.cons _ (.cons_cons _ (.cons_cons _ .slnil)))) (q_pick rfl rfl (pk_and' (g := (z6 && z11)) (y := (decide (z22 < v_.dot.n))))) ?_
  refine ht (i := 20) rfl (by kernel_rfl) rfl rfl rfl (fun w hw => hw.back (Gh.refl _) h03 (.cons _ (.cons_cons _ (.cons_cons _ .slnil)))) (q_move (v := .bool ((z6 && z11) && (decide (z22 < v_.dot.n)))) rfl (by kernel_rfl)) ?_
  refine hg1 (i := 21) rfl (by kernel_rfl) rfl rfl rfl rfl rfl (fun w hw => hw.back (Gh.refl _) h03 (.cons _ (.cons_cons _ (.cons_cons _ .slnil)))) (fun hg25 => (q_fl 4 fld_57_3 rfl rfl rfl)) ?_
  refine hg1 (i := 22) rfl (by kernel_rfl) rfl rfl rfl rfl rfl (fun w hw => hw.back (Gh.refl _) h03 (.cons _ (.cons_cons _ (.cons_cons _ .slnil)))) (fun hg26 => (q_ldl (i := 1) (v := .string v_.val) rfl rfl Tryz.isAgg9 (gu hg26 rfl) rfl)) ?_
  refine hg1 (i := 23) rfl (by kernel_rfl) rfl rfl rfl rfl rfl (fun w hw => hw.back (Gh.refl _) h03 (.cons _ (.cons_cons _ (.cons_cons _ .slnil)))) (fun hg27 => (q_len_str rfl Tryz.underlying9 (gu hg27 rfl))) ?_
  refine hg1 (i := 24) rfl (by kernel_rfl) rfl rfl rfl rfl rfl (fun w hw => hw.back (Gh.refl _) h03 (.cons _ (.cons_cons _ (.cons_cons _ .slnil)))) (fun hg28 => (q_leq rfl (gu hg28 rfl) rfl)) ?_
  refine ht (i := 25) rfl (by kernel_rfl) rfl rfl rfl (fun w hw => hw.back (Gh.refl _) h03 (.cons _ (.cons_cons _ (.cons_cons _ .slnil)))) (q_pick rfl rfl (pk_and' (g := ((z6 && z11) && (decide (z22 < v_.dot.n)))) (y := (decide (((v_.val.size : Nat) : Int) ≤ 256))))) ?_
  refine ht (i := 26) rfl (by kernel_rfl) rfl rfl rfl (fun w hw => hw.back (Gh.refl _) h03 (.cons _ (.cons_cons _ (.cons_cons _ .slnil)))) (q_move (v := .bool (((z6 && z11) && (decide (z22 < v_.dot.n))) && (decide (((v_.val.size : Nat) : Int) ≤ 256)))) rfl (by kernel_rfl)) ?_
  refine hg1 (i := 27) rfl (by kernel_rfl) rfl rfl rfl rfl rfl (fun w hw => hw.back (Gh.refl _) h03 (.cons _ (.cons_cons _ (.cons_cons _ .slnil)))) (fun hg29 => (q_fl 3 fld_57_2 rfl rfl rfl)) ?_
  refine hg1 (i := 28) rfl (by kernel_rfl) rfl rfl rfl rfl rfl (fun w hw => hw.back (Gh.refl _) h03 (.cons _ (.cons_cons _ (.cons_cons _ .slnil)))) (fun hg30 => (q_ldl (i := 1) (v := .bool v_.gone) rfl rfl Tryz.isAgg4 (gu hg30 rfl) rfl)) ?_
  refine hg1 (i := 29) rfl (by kernel_rfl) rfl rfl rfl rfl rfl (fun w hw => hw.back (Gh.refl _) h03 (.cons _ (.cons_cons _ (.cons_cons _ .slnil)))) (fun hg31 => (q_not rfl (gu hg31 rfl))) ?_
  refine hg1 (i := 30) rfl (by kernel_rfl) rfl rfl rfl rfl rfl (fun w hw => hw.back (Gh.refl _) h03 (.cons _ (.cons_cons _ (.cons_cons _ .slnil)))) (fun hg32 => (q_move (v := .bool (!v_.gone)) rfl (gu hg32 rfl))) ?_
  refine hh0 (c0 := (((z6 && z11) && (decide (z22 < v_.dot.n))) && (decide (((v_.val.size : Nat) : Int) ≤ 256)))) (g := (!v_.gone)) (i := 31) rfl (by kernel_rfl) rfl rfl rfl rfl rfl (fun w hw => hw.back (Gh.refl _) h03 (.cons _ (.cons_cons _ (.cons_cons _ .slnil)))) (fun hg33 => (q_fl 4 fld_57_3 rfl rfl rfl)) ?_
  refine hh0 (c0 := (((z6 && z11) && (decide (z22 < v_.dot.n))) && (decide (((v_.val.size : Nat) : Int) ≤ 256)))) (g := (!v_.gone)) (i := 32) rfl (by kernel_rfl) rfl rfl rfl rfl rfl (fun w hw => hw.back (Gh.refl _) h03 (.cons _ (.cons_cons _ (.cons_cons _ .slnil)))) (fun hg34 => (q_ldl (i := 1) (v := .string v_.val) rfl rfl Tryz.isAgg9 (gu hg34 rfl) rfl)) ?_
  refine hh0 (c0 := (((z6 && z11) && (decide (z22 < v_.dot.n))) && (decide (((v_.val.size : Nat) : Int) ≤ 256)))) (g := (!v_.gone)) (i := 33) rfl (by kernel_rfl) rfl rfl rfl rfl rfl (fun w hw => hw.back (Gh.refl _) h03 (.cons _ (.cons_cons _ (.cons_cons _ .slnil)))) (fun hg35 => (q_seql rfl (gu hg35 rfl) rfl)) ?_
  refine hg1 (i := 34) rfl (by kernel_rfl) rfl rfl rfl rfl rfl (fun w hw => hw.back (Gh.refl _) h03 (.cons _ (.cons_cons _ (.cons_cons _ .slnil)))) (fun hg36 => (q_pick rfl (gu hg36 rfl) (pk_or (c := (((z6 && z11) && (decide (z22 < v_.dot.n))) && (decide (((v_.val.size : Nat) : Int) ≤ 256)))) (g := (!v_.gone)) (y := (v_.val == ByteArray.empty)) hg36))) ?_
  refine ht (i := 35) rfl (by kernel_rfl) rfl rfl rfl (fun w hw => hw.back (Gh.refl _) h03 (.cons _ (.cons_cons _ (.cons_cons _ .slnil)))) (q_pick rfl rfl (pk_and' (g := (((z6 && z11) && (decide (z22 < v_.dot.n))) && (decide (((v_.val.size : Nat) : Int) ≤ 256)))) (y := ((!v_.gone) || (v_.val == ByteArray.empty))))) ?_
  refine ht (i := 36) rfl (by kernel_rfl) rfl rfl rfl (fun w hw => hw.back (Gh.refl _) h03 (.cons _ (.cons_cons _ (.cons_cons _ .slnil)))) (q_assign (v := .bool ((((z6 && z11) && (decide (z22 < v_.dot.n))) && (decide (((v_.val.size : Nat) : Int) ≤ 256))) && ((!v_.gone) || (v_.val == ByteArray.empty)))) rfl (by kernel_rfl)) ?_
  refine WH.done (by kernel_rfl) ?_
  change WC _ _ _ _ _ _
  refine WC.ret ?_
  intro w hw
  obtain rfl := Option.some.inj h
  subst hF
  exact ⟨by kernel_rfl, hw.fr⟩
set_option maxRecDepth 100000 in
set_option maxHeartbeats 400000 in
theorem t_vers_before {Γ : Gh} {w0 : World} (a : Dot) (ha : Dot.fits Γ  a) (b : Dot) (hb : Dot.fits Γ  b) (hs : Sat Γ w0) {r : Bool} (h : m_vers_before a b = some r) : Calls Tryz.prog 77 #[.agg #[.int .i64 a.s, .int .i64 a.n], .agg #[.int .i64 b.s, .int .i64 b.n]] w0 (fun e w' => e = .returned (.bool r) ∧ Fr no w0 w') := by
  refine calls_of (N := 24) (rs := [4]) (args := [.agg #[.int .i64 a.s, .int .i64 a.n], .agg #[.int .i64 b.s, .int .i64 b.n]]) Tryz.func77 rfl Tryz.ntmps77 Tryz.results77 rfl ?_
  obtain ⟨F, hF⟩ : ∃ F : Fm, F = ⟨no, w0, Γ⟩ := ⟨_, rfl⟩
  refine WC.here (C := CC F Γ []) ?_ (hF ▸ Cur.start0 hs)
  refine WC.rs ?_
  refine e_box (v := .agg #[.int .i64 a.s, .int .i64 a.n]) rfl rfl rfl rfl (by kernel_rfl) ?_
  intro g1
  refine e_box (v := .agg #[.int .i64 b.s, .int .i64 b.n]) rfl rfl rfl rfl (by kernel_rfl) ?_
  intro g2
  refine va rfl rfl rfl (q_assign (v := .bool false) rfl (by kernel_rfl)) ?_
  refine WR.nil ?_
  change WC _ _ _ _ _ _
  refine WC.rs ?_
  refine va rfl rfl rfl (q_fl 0 fld_54_0 rfl rfl rfl) ?_
  refine va rfl rfl rfl (q_ldl (i := 1) (v := .int .i64 a.s) rfl rfl Tryz.isAgg3 rfl rfl) ?_
  refine va rfl rfl rfl (q_fl 0 fld_54_0 rfl rfl rfl) ?_
  refine va rfl rfl rfl (q_ldl (i := 0) (v := .int .i64 b.s) rfl rfl Tryz.isAgg3 rfl rfl) ?_
  refine va rfl rfl rfl (q_lss rfl rfl rfl) ?_
  refine va rfl rfl rfl (q_move (v := .bool (decide (a.s < b.s))) rfl (by kernel_rfl)) ?_
  refine vg0 rfl rfl rfl rfl rfl (fun hg3 => QV.qo (q_fl 0 fld_54_0 rfl rfl rfl)) ?_
  refine vg0 rfl rfl rfl rfl rfl (fun hg4 => QV.qo (q_ldl (i := 1) (v := .int .i64 a.s) rfl rfl Tryz.isAgg3 (gu hg4 rfl) rfl)) ?_
  refine vg0 rfl rfl rfl rfl rfl (fun hg5 => QV.qo (q_fl 0 fld_54_0 rfl rfl rfl)) ?_
  refine vg0 rfl rfl rfl rfl rfl (fun hg6 => QV.qo (q_ldl (i := 0) (v := .int .i64 b.s) rfl rfl Tryz.isAgg3 (gu hg6 rfl) rfl)) ?_
  refine vg0 rfl rfl rfl rfl rfl (fun hg7 => QV.qo (q_eql rfl (gu hg7 rfl) (gu hg7 rfl))) ?_
  refine vg0 rfl rfl rfl rfl rfl (fun hg8 => QV.qo (q_move (v := .bool (a.s == b.s)) rfl (gu hg8 rfl))) ?_
  refine vh1 (c0 := (!(decide (a.s < b.s)))) (g := (a.s == b.s)) rfl rfl rfl rfl rfl (fun hg9 => QV.qo (q_fl 1 fld_54_1 rfl rfl rfl)) ?_
  refine vh1 (c0 := (!(decide (a.s < b.s)))) (g := (a.s == b.s)) rfl rfl rfl rfl rfl (fun hg10 => QV.qo (q_ldl (i := 1) (v := .int .i64 a.n) rfl rfl Tryz.isAgg2 (gu hg10 rfl) rfl)) ?_
  refine vh1 (c0 := (!(decide (a.s < b.s)))) (g := (a.s == b.s)) rfl rfl rfl rfl rfl (fun hg11 => QV.qo (q_fl 1 fld_54_1 rfl rfl rfl)) ?_
  refine vh1 (c0 := (!(decide (a.s < b.s)))) (g := (a.s == b.s)) rfl rfl rfl rfl rfl (fun hg12 => QV.qo (q_ldl (i := 0) (v := .int .i64 b.n) rfl rfl Tryz.isAgg2 (gu hg12 rfl) rfl)) ?_
  refine vh1 (c0 := (!(decide (a.s < b.s)))) (g := (a.s == b.s)) rfl rfl rfl rfl rfl (fun hg13 => QV.qo (q_lss rfl (gu hg13 rfl) (gu hg13 rfl))) ?_
  refine vg0 rfl rfl rfl rfl rfl (fun hg14 => QV.qo (q_pick rfl (gu hg14 rfl) (pk_and (c := (!(decide (a.s < b.s)))) (g := (a.s == b.s)) (y := (decide (a.n < b.n))) hg14))) ?_
  refine va rfl rfl rfl (q_pick rfl rfl (pk_or' (g := (decide (a.s < b.s))) (y := ((a.s == b.s) && (decide (a.n < b.n)))))) ?_
  refine va rfl rfl rfl (q_assign (v := .bool ((decide (a.s < b.s)) || ((a.s == b.s) && (decide (a.n < b.n))))) rfl (by kernel_rfl)) ?_
  refine WR.nil ?_
  change WC _ _ _ _ _ _
  refine WC.ret ?_
  intro w hw
  obtain rfl := Option.some.inj h
  subst hF
  exact ⟨by kernel_rfl, hw.fr⟩
set_option maxRecDepth 100000 in
set_option maxHeartbeats 400000 in
theorem t_span_Has {Γ : Gh} {w0 : World} {Al : Option Addr} {cl : Nat} {l : List Span} (hl : Sl spanT Γ Al l) (hlc : l.length ≤ cl) (d : Dot) (hd : Dot.fits Γ  d) (hs : Sat Γ w0) {r : Bool} (h : m_span_Has l d = some r) : Calls Tryz.prog 97 #[.slice Al l.length cl, .agg #[.int .i64 d.s, .int .i64 d.n]] w0 (fun e w' => e = .returned (.bool r) ∧ Fr no w0 w') := by
  refine calls_of (N := 33) (rs := [4]) (args := [.slice Al l.length cl, .agg #[.int .i64 d.s, .int .i64 d.n]]) Tryz.func97 rfl Tryz.ntmps97 Tryz.results97 rfl ?_
  obtain ⟨F, hF⟩ : ∃ F : Fm, F = ⟨no, w0, Γ⟩ := ⟨_, rfl⟩
  refine WC.here (C := CC F Γ []) ?_ (hF ▸ Cur.start0 hs)
  refine WC.rs ?_
  refine e_box (v := .agg #[.int .i64 d.s, .int .i64 d.n]) rfl rfl rfl rfl (by kernel_rfl) ?_
  intro g1
  refine va rfl rfl rfl (q_assign (v := .bool false) rfl (by kernel_rfl)) ?_
  refine WR.nil ?_
  change WC _ _ _ _ _ _
  refine WC.seq ?_
  refine WC.rs ?_
  refine va rfl rfl rfl (q_move (v := .slice Al l.length cl) rfl (by kernel_rfl)) ?_
  refine va rfl rfl rfl (q_len_slice rfl Tryz.underlying55 rfl) ?_
  refine va rfl rfl rfl (q_move (v := .int .i64 0) rfl (by kernel_rfl)) ?_
  refine WR.nil ?_
  change WC _ _ _ _ _ _
  refine WC.block ?_
  refine WC.forI h (fun (i3 : Nat) (s : Unit) σ w => match s with | () => slots σ [(3, .pointer (some ⟨g1, 0, none⟩)), (7, .slice Al l.length cl), (8, .int .i64 ((l.length : Nat) : Int)), (9, .int .i64 ((i3 : Nat) : Int))] ∧ CC F Γ [[(g1, .cells #[.int .i64 d.s, .int .i64 d.n] 54 (0, 0))]] w ∧ True) ?_ ?_
  · skip
    intro w hw
    exact ⟨(sl_ (by kernel_rfl)), hw, trivial⟩
  rintro f2 i3 ⟨⟩ σ w hi4 hlt5 hge6 ⟨hsl, hw, -⟩
  refine Wpt.slots hsl ?_
  refine WC.here (C := CC F Γ [[(g1, .cells #[.int .i64 d.s, .int .i64 d.n] 54 (0, 0))]]) ?_ hw
  clear hw hsl
  refine WC.rs ?_
  refine va rfl rfl rfl (q_lss rfl rfl rfl) ?_
  refine WR.nil ?_
  change WC _ _ _ _ _ _
  refine WC.seq ?_
  refine WC.cond (b := (decide (((i3 : Nat) : Int) < ((l.length : Nat) : Int)))) (by kernel_rfl) (fun hb7 => ?_) (fun hb7 => ?_)
  · skip
    have hl8 := ilt hb7
    have h := hlt5 hl8
    refine WC.skip ?_
    change WC _ _ _ _ _ _
    refine WC.seq ?_
    refine WC.block ?_
    refine WC.rs ?_
    refine va rfl rfl rfl (q_ixn (i := i3) Tryz.underlying55 Tryz.sizeOf59 rfl rfl rfl hl8 (hl.some_ hl8)) ?_
    refine va rfl rfl rfl (q_lda (c := 0) (vs := [.int .i64 (gt l i3).s, .int .i64 (gt l i3).f, .int .i64 (gt l i3).t]) (hl.spanT_at hl8).2 rfl Tryz.isAgg59 Tryz.sizeOf59 rfl rfl rfl) ?_
    refine e_alloc Tryz.zeroValue59 rfl rfl rfl rfl ?_
    intro g9
    refine e_st (i := 0) (v := .agg #[.int .i64 (gt l i3).s, .int .i64 (gt l i3).f, .int .i64 (gt l i3).t]) (new := #[.int .i64 (gt l i3).s, .int .i64 (gt l i3).f, .int .i64 (gt l i3).t]) rfl Tryz.sizeOf59 rfl rfl rfl rfl (by kernel_rfl) rfl rfl rfl rfl ?_
    refine WR.nil ?_
    change WC _ _ _ _ _ _
    refine WC.rs ?_
    refine va rfl rfl rfl (q_fl 0 fld_59_0 rfl rfl rfl) ?_
    refine va rfl rfl rfl (q_ldl (i := 0) (v := .int .i64 (gt l i3).s) rfl rfl Tryz.isAgg3 rfl rfl) ?_
    refine va rfl rfl rfl (q_fl 0 fld_54_0 rfl rfl rfl) ?_
    refine va rfl rfl rfl (q_ldl (i := 1) (v := .int .i64 d.s) rfl rfl Tryz.isAgg3 rfl rfl) ?_
    refine va rfl rfl rfl (q_eql rfl rfl rfl) ?_
    refine va rfl rfl rfl (q_move (v := .bool ((gt l i3).s == d.s)) rfl (by kernel_rfl)) ?_
    refine vg1 rfl rfl rfl rfl rfl (fun hg10 => QV.qo (q_fl 1 fld_59_1 rfl rfl rfl)) ?_
    refine vg1 rfl rfl rfl rfl rfl (fun hg11 => QV.qo (q_ldl (i := 0) (v := .int .i64 (gt l i3).f) rfl rfl Tryz.isAgg2 (gu hg11 rfl) rfl)) ?_
    refine vg1 rfl rfl rfl rfl rfl (fun hg12 => QV.qo (q_fl 1 fld_54_1 rfl rfl rfl)) ?_
    refine vg1 rfl rfl rfl rfl rfl (fun hg13 => QV.qo (q_ldl (i := 1) (v := .int .i64 d.n) rfl rfl Tryz.isAgg2 (gu hg13 rfl) rfl)) ?_
    refine vg1 rfl rfl rfl rfl rfl (fun hg14 => QV.qo (q_leq rfl (gu hg14 rfl) (gu hg14 rfl))) ?_
    refine va rfl rfl rfl (q_pick rfl rfl (pk_and' (g := ((gt l i3).s == d.s)) (y := (decide ((gt l i3).f ≤ d.n))))) ?_
    refine va rfl rfl rfl (q_move (v := .bool (((gt l i3).s == d.s) && (decide ((gt l i3).f ≤ d.n)))) rfl (by kernel_rfl)) ?_
    refine vg1 rfl rfl rfl rfl rfl (fun hg15 => QV.qo (q_fl 1 fld_54_1 rfl rfl rfl)) ?_
    refine vg1 rfl rfl rfl rfl rfl (fun hg16 => QV.qo (q_ldl (i := 1) (v := .int .i64 d.n) rfl rfl Tryz.isAgg2 (gu hg16 rfl) rfl)) ?_
    refine vg1 rfl rfl rfl rfl rfl (fun hg17 => QV.qo (q_fl 2 fld_59_2 rfl rfl rfl)) ?_
    refine vg1 rfl rfl rfl rfl rfl (fun hg18 => QV.qo (q_ldl (i := 0) (v := .int .i64 (gt l i3).t) rfl rfl Tryz.isAgg2 (gu hg18 rfl) rfl)) ?_
    refine vg1 rfl rfl rfl rfl rfl (fun hg19 => QV.qo (q_leq rfl (gu hg19 rfl) (gu hg19 rfl))) ?_
    refine va rfl rfl rfl (q_pick rfl rfl (pk_and' (g := (((gt l i3).s == d.s) && (decide ((gt l i3).f ≤ d.n)))) (y := (decide (d.n ≤ (gt l i3).t))))) ?_
    refine WR.nil ?_
    change WC _ _ _ _ _ _
    refine WC.cif h (by kernel_rfl) (fun hb20 h => ?_) (fun hb20 h => ?_)
    · skip
      refine WC.rs ?_
      refine va rfl rfl rfl (q_assign (v := .bool true) rfl (by kernel_rfl)) ?_
      refine WR.nil ?_
      change WC _ _ _ _ _ _
      refine WC.ret ?_
      intro w hw
      obtain rfl := Option.some.inj h
      subst hF
      exact ⟨by kernel_rfl, hw.fr⟩
    · skip
      refine WC.skip ?_
      change WC _ _ _ _ _ _
      refine WC.region ?_
      refine va rfl rfl rfl (q_add_r (r := ((i3 + 1 : Nat) : Int)) rfl rfl rfl (ctr_len hl8 hl.le)) ?_
      refine va rfl rfl rfl (q_move (v := .int .i64 ((i3 + 1 : Nat) : Int)) rfl (by kernel_rfl)) ?_
      refine WR.nil ?_
      intro w hw
      exact ⟨hl8, (), h, (sl_ (by kernel_rfl)), (hw.only (is := [1]) rfl), trivial⟩
  · skip
    have h := hge6 (ige hb7)
    refine WC.exit ?_
    change WC _ _ _ _ _ _
    refine WC.rs ?_
    refine va rfl rfl rfl (q_assign (v := .bool false) rfl (by kernel_rfl)) ?_
    refine WR.nil ?_
    change WC _ _ _ _ _ _
    refine WC.ret ?_
    intro w hw
    obtain rfl := Option.some.inj h
    subst hF
    exact ⟨by kernel_rfl, hw.fr⟩
set_option maxRecDepth 100000 in
set_option maxHeartbeats 400000 in
theorem t_vers_behind {Γ : Gh} {w0 : World} (d : Dot) (hd : Dot.fits Γ  d) {Al : Option Addr} {cl : Nat} {l : List Ver} (hl : Sl verT Γ Al l) (hlc : l.length ≤ cl) (hs : Sat Γ w0) {r : Bool} (h : m_vers_behind d l = some r) : Calls Tryz.prog 75 #[.agg #[.int .i64 d.s, .int .i64 d.n], .slice Al l.length cl] w0 (fun e w' => e = .returned (.bool r) ∧ Fr no w0 w') := by
  refine calls_of (N := 18) (rs := [4]) (args := [.agg #[.int .i64 d.s, .int .i64 d.n], .slice Al l.length cl]) Tryz.func75 rfl Tryz.ntmps75 Tryz.results75 rfl ?_
  obtain ⟨F, hF⟩ : ∃ F : Fm, F = ⟨no, w0, Γ⟩ := ⟨_, rfl⟩
  refine WC.here (C := CC F Γ []) ?_ (hF ▸ Cur.start0 hs)
  refine WC.rs ?_
  refine e_box (v := .agg #[.int .i64 d.s, .int .i64 d.n]) rfl rfl rfl rfl (by kernel_rfl) ?_
  intro g1
  refine va rfl rfl rfl (q_assign (v := .bool false) rfl (by kernel_rfl)) ?_
  refine WR.nil ?_
  change WC _ _ _ _ _ _
  refine WC.seq ?_
  refine WC.rs ?_
  refine va rfl rfl rfl (q_move (v := .slice Al l.length cl) rfl (by kernel_rfl)) ?_
  refine va rfl rfl rfl (q_len_slice rfl Tryz.underlying48 rfl) ?_
  refine va rfl rfl rfl (q_move (v := .int .i64 0) rfl (by kernel_rfl)) ?_
  refine WR.nil ?_
  change WC _ _ _ _ _ _
  refine WC.block ?_
  refine WC.forI h (fun (i3 : Nat) (s : Unit) σ w => match s with | () => slots σ [(2, .pointer (some ⟨g1, 0, none⟩)), (7, .slice Al l.length cl), (8, .int .i64 ((l.length : Nat) : Int)), (9, .int .i64 ((i3 : Nat) : Int))] ∧ CC F Γ [[(g1, .cells #[.int .i64 d.s, .int .i64 d.n] 54 (0, 0))]] w ∧ True) ?_ ?_
  · skip
    intro w hw
    exact ⟨(sl_ (by kernel_rfl)), hw, trivial⟩
  rintro f2 i3 ⟨⟩ σ w hi4 hlt5 hge6 ⟨hsl, hw, -⟩
  refine Wpt.slots hsl ?_
  refine WC.here (C := CC F Γ [[(g1, .cells #[.int .i64 d.s, .int .i64 d.n] 54 (0, 0))]]) ?_ hw
  clear hw hsl
  refine WC.rs ?_
  refine va rfl rfl rfl (q_lss rfl rfl rfl) ?_
  refine WR.nil ?_
  change WC _ _ _ _ _ _
  refine WC.seq ?_
  refine WC.cond (b := (decide (((i3 : Nat) : Int) < ((l.length : Nat) : Int)))) (by kernel_rfl) (fun hb7 => ?_) (fun hb7 => ?_)
  · skip
    have hl8 := ilt hb7
    have h := hlt5 hl8
    refine WC.skip ?_
    change WC _ _ _ _ _ _
    refine WC.seq ?_
    refine WC.block ?_
    refine WC.rs ?_
    refine va rfl rfl rfl (q_ixn (i := i3) Tryz.underlying48 Tryz.sizeOf57 rfl rfl rfl hl8 (hl.some_ hl8)) ?_
    obtain ⟨A9, c10, hx11⟩ := hl.verT_at i3
    refine va rfl rfl rfl (q_lda (c := 0) (vs := [.int .i64 (gt l i3).dot.s, .int .i64 (gt l i3).dot.n, .slice A9 ((gt l i3).past).length c10, .bool (gt l i3).gone, .string (gt l i3).val]) (hx11 hl8).2 rfl Tryz.isAgg57 Tryz.sizeOf57 rfl rfl rfl) ?_
    refine e_alloc Tryz.zeroValue57 rfl rfl rfl rfl ?_
    intro g12
    refine e_st (i := 0) (v := .agg #[.int .i64 (gt l i3).dot.s, .int .i64 (gt l i3).dot.n, .slice A9 ((gt l i3).past).length c10, .bool (gt l i3).gone, .string (gt l i3).val]) (new := #[.int .i64 (gt l i3).dot.s, .int .i64 (gt l i3).dot.n, .slice A9 ((gt l i3).past).length c10, .bool (gt l i3).gone, .string (gt l i3).val]) rfl Tryz.sizeOf57 rfl rfl rfl rfl (by kernel_rfl) rfl rfl rfl rfl ?_
    refine WR.nil ?_
    change WC _ _ _ _ _ _
    refine WC.rs ?_
    refine va rfl rfl rfl (q_fl 2 fld_57_1 rfl rfl rfl) ?_
    refine va rfl rfl rfl (q_ldl (i := 0) (v := .slice A9 ((gt l i3).past).length c10) rfl rfl Tryz.isAgg55 rfl rfl) ?_
    refine va rfl rfl rfl (q_ldla (i := 1) (vs := [.int .i64 d.s, .int .i64 d.n]) rfl rfl Tryz.isAgg54 Tryz.sizeOf54 rfl rfl) ?_
    obtain ⟨z13, hz14, h⟩ := bnd h
    refine vc rfl rfl rfl (q_call (call_run Tryz.call97 rfl rfl (by kernel_rfl)) (fun w hw => t_span_Has (Γ := Gh.all w) ((hx11 hl8).1.2.2.1.2.mono hw.sat.le_all) (hx11 hl8).1.2.2.1.1 d hd (Sat.all w) hz14)) ?_
    refine WR.nil ?_
    change WC _ _ _ _ _ _
    refine WC.cif h (by kernel_rfl) (fun hb15 h => ?_) (fun hb15 h => ?_)
    · skip
      refine WC.rs ?_
      refine va rfl rfl rfl (q_assign (v := .bool true) rfl (by kernel_rfl)) ?_
      refine WR.nil ?_
      change WC _ _ _ _ _ _
      refine WC.ret ?_
      intro w hw
      obtain rfl := Option.some.inj h
      subst hF
      exact ⟨by kernel_rfl, hw.fr⟩
    · skip
      refine WC.skip ?_
      change WC _ _ _ _ _ _
      refine WC.region ?_
      refine va rfl rfl rfl (q_add_r (r := ((i3 + 1 : Nat) : Int)) rfl rfl rfl (ctr_len hl8 hl.le)) ?_
      refine va rfl rfl rfl (q_move (v := .int .i64 ((i3 + 1 : Nat) : Int)) rfl (by kernel_rfl)) ?_
      refine WR.nil ?_
      intro w hw
      exact ⟨hl8, (), h, (sl_ (by kernel_rfl)), (hw.only (is := [1]) rfl), trivial⟩
  · skip
    have h := hge6 (ige hb7)
    refine WC.exit ?_
    change WC _ _ _ _ _ _
    refine WC.rs ?_
    refine va rfl rfl rfl (q_assign (v := .bool false) rfl (by kernel_rfl)) ?_
    refine WR.nil ?_
    change WC _ _ _ _ _ _
    refine WC.ret ?_
    intro w hw
    obtain rfl := Option.some.inj h
    subst hF
    exact ⟨by kernel_rfl, hw.fr⟩
set_option maxRecDepth 100000 in
set_option maxHeartbeats 400000 in
theorem t_vers_Right {Γ : Gh} {w0 : World} {Al : Option Addr} {cl : Nat} {l : List Ver} (hl : Sl verT Γ Al l) (hlc : l.length ≤ cl) (hs : Sat Γ w0) {r : Bool} (h : m_vers_Right l = some r) : Calls Tryz.prog 73 #[.slice Al l.length cl] w0 (fun e w' => e = .returned (.bool r) ∧ Fr no w0 w') := by
  refine calls_of (N := 41) (rs := [2]) (args := [.slice Al l.length cl]) Tryz.func73 rfl Tryz.ntmps73 Tryz.results73 rfl ?_
  obtain ⟨F, hF⟩ : ∃ F : Fm, F = ⟨no, w0, Γ⟩ := ⟨_, rfl⟩
  refine WC.here (C := CC F Γ []) ?_ (hF ▸ Cur.start0 hs)
  refine WC.rs ?_
  refine va rfl rfl rfl (q_assign (v := .bool false) rfl (by kernel_rfl)) ?_
  refine WR.nil ?_
  change WC _ _ _ _ _ _
  refine WC.seq ?_
  refine WC.rs ?_
  refine va rfl rfl rfl (q_move (v := .slice Al l.length cl) rfl (by kernel_rfl)) ?_
  refine va rfl rfl rfl (q_len_slice rfl Tryz.underlying48 rfl) ?_
  refine va rfl rfl rfl (q_move (v := .int .i64 0) rfl (by kernel_rfl)) ?_
  refine WR.nil ?_
  change WC _ _ _ _ _ _
  refine WC.block ?_
  refine WC.forI h (fun (i2 : Nat) (s : Unit) σ w => match s with | () => slots σ [(0, .slice Al l.length cl), (5, .slice Al l.length cl), (6, .int .i64 ((l.length : Nat) : Int)), (7, .int .i64 ((i2 : Nat) : Int))] ∧ CC F Γ [] w ∧ True) ?_ ?_
  · skip
    intro w hw
    exact ⟨(sl_ (by kernel_rfl)), hw, trivial⟩
  rintro f1 i2 ⟨⟩ σ w hi3 hlt4 hge5 ⟨hsl, hw, -⟩
  refine Wpt.slots hsl ?_
  refine WC.here (C := CC F Γ []) ?_ hw
  clear hw hsl
  refine WC.rs ?_
  refine va rfl rfl rfl (q_lss rfl rfl rfl) ?_
  refine WR.nil ?_
  change WC _ _ _ _ _ _
  refine WC.seq ?_
  refine WC.cond (b := (decide (((i2 : Nat) : Int) < ((l.length : Nat) : Int)))) (by kernel_rfl) (fun hb6 => ?_) (fun hb6 => ?_)
  · skip
    have hl7 := ilt hb6
    have h := hlt4 hl7
    refine WC.skip ?_
    change WC _ _ _ _ _ _
    refine WC.seq ?_
    refine WC.block ?_
    refine WC.rs ?_
    refine va rfl rfl rfl (q_move (v := .int .i64 ((i2 : Nat) : Int)) rfl (by kernel_rfl)) ?_
    refine va rfl rfl rfl (q_ixn (i := i2) Tryz.underlying48 Tryz.sizeOf57 rfl rfl rfl hl7 (hl.some_ hl7)) ?_
    obtain ⟨A8, c9, hx10⟩ := hl.verT_at i2
    refine va rfl rfl rfl (q_lda (c := 0) (vs := [.int .i64 (gt l i2).dot.s, .int .i64 (gt l i2).dot.n, .slice A8 ((gt l i2).past).length c9, .bool (gt l i2).gone, .string (gt l i2).val]) (hx10 hl7).2 rfl Tryz.isAgg57 Tryz.sizeOf57 rfl rfl rfl) ?_
    refine e_alloc Tryz.zeroValue57 rfl rfl rfl rfl ?_
    intro g11
    refine va rfl rfl rfl (q_assign (v := .int .i64 ((i2 : Nat) : Int)) rfl (by kernel_rfl)) ?_
    refine e_st (i := 0) (v := .agg #[.int .i64 (gt l i2).dot.s, .int .i64 (gt l i2).dot.n, .slice A8 ((gt l i2).past).length c9, .bool (gt l i2).gone, .string (gt l i2).val]) (new := #[.int .i64 (gt l i2).dot.s, .int .i64 (gt l i2).dot.n, .slice A8 ((gt l i2).past).length c9, .bool (gt l i2).gone, .string (gt l i2).val]) rfl Tryz.sizeOf57 rfl rfl rfl rfl (by kernel_rfl) rfl rfl rfl rfl ?_
    refine WR.nil ?_
    change WC _ _ _ _ _ _
    refine WC.seq ?_
    refine WC.dr (by kernel_rfl) (by kernel_rfl) (fun w hw => hw.drawn _) ?_
    refine wa rfl rfl rfl (q_ldla (i := 0) (vs := [.int .i64 (gt l i2).dot.s, .int .i64 (gt l i2).dot.n, .slice A8 ((gt l i2).past).length c9, .bool (gt l i2).gone, .string (gt l i2).val]) rfl rfl Tryz.isAgg57 Tryz.sizeOf57 rfl rfl) ?_
    obtain ⟨z12, hz13, h⟩ := bnd h
    refine wc rfl rfl rfl (q_call (call_run Tryz.call96 rfl rfl (by kernel_rfl)) (fun w hw => t_vers_RightOne (Γ := Gh.all w) (gt l i2) (Ver.fits_mono (hx10 hl7).1 hw.sat.le_all) (Sat.all w) hz13)) ?_
    refine wa rfl rfl rfl (q_not rfl rfl) ?_
    refine wa rfl rfl rfl (q_move (v := .bool (!z12)) rfl (by kernel_rfl)) ?_
    refine wg0 rfl rfl rfl rfl rfl (fun hg14 => QV.qo (q_move (v := .int .i64 ((i2 : Nat) : Int)) rfl (by kernel_rfl))) ?_
    refine wg0 rfl rfl rfl rfl rfl (fun hg15 => QV.qo (q_gtr rfl (gu hg15 rfl) rfl)) ?_
    refine wg0 rfl rfl rfl rfl rfl (fun hg16 => QV.qo (q_move (v := .bool (decide (0 < ((i2 : Nat) : Int)))) rfl (gu hg16 rfl))) ?_
    refine wh1 (c0 := (!(!z12))) (g := (decide (0 < ((i2 : Nat) : Int)))) rfl rfl rfl rfl rfl (fun hg17 => QV.qo (q_move (v := .slice Al l.length cl) rfl (by kernel_rfl))) ?_
    refine wh1 (c0 := (!(!z12))) (g := (decide (0 < ((i2 : Nat) : Int)))) rfl rfl rfl rfl rfl (fun hg18 => QV.qo (q_move (v := .int .i64 ((i2 : Nat) : Int)) rfl (by kernel_rfl))) ?_
    refine wh1 (c0 := (!(!z12))) (g := (decide (0 < ((i2 : Nat) : Int)))) rfl rfl rfl rfl rfl (fun hg19 => QV.qo (q_sub rfl (gu hg19 rfl) rfl)) ?_
    obtain ⟨hk21, h⟩ := chk_some h
    refine wh1 (c0 := (!(!z12))) (g := (decide (0 < ((i2 : Nat) : Int)))) rfl rfl rfl rfl rfl (fun hg20 => QV.qo (q_ix Tryz.underlying48 Tryz.sizeOf57 rfl (gu hg20 rfl) (gu hg20 rfl) (imp_of hk21 hg20) (hl.some_ (inb_lt (imp_of hk21 hg20))))) ?_
    refine wh1 (c0 := (!(!z12))) (g := (decide (0 < ((i2 : Nat) : Int)))) rfl rfl rfl rfl rfl (fun hg22 => QV.qo (q_field_addr (((w64 (((i2 : Nat) : Int) - 1)).toNat) * 5) fld_57_0 rfl (gu hg22 rfl) (hl.some_ (inb_lt (imp_of hk21 hg22))) rfl)) ?_
    obtain ⟨A24, c25, hx26⟩ := hl.verT_at ((w64 (((i2 : Nat) : Int) - 1)).toNat)
    refine wh1 (c0 := (!(!z12))) (g := (decide (0 < ((i2 : Nat) : Int)))) rfl rfl rfl rfl rfl (fun hg23 => QV.qo (q_lda (c := 0) (vs := [.int .i64 (gt l ((w64 (((i2 : Nat) : Int) - 1)).toNat)).dot.s, .int .i64 (gt l ((w64 (((i2 : Nat) : Int) - 1)).toNat)).dot.n]) (hx26 (inb_lt (imp_of hk21 hg23))).2 rfl Tryz.isAgg54 Tryz.sizeOf54 (gu hg23 rfl) rfl rfl)) ?_
    refine wh1 (c0 := (!(!z12))) (g := (decide (0 < ((i2 : Nat) : Int)))) rfl rfl rfl rfl rfl (fun hg27 => QV.qo (q_fl 0 fld_57_0 rfl rfl rfl)) ?_
    refine wh1 (c0 := (!(!z12))) (g := (decide (0 < ((i2 : Nat) : Int)))) rfl rfl rfl rfl rfl (fun hg28 => QV.qo (q_ldla (i := 0) (vs := [.int .i64 (gt l i2).dot.s, .int .i64 (gt l i2).dot.n]) rfl rfl Tryz.isAgg54 Tryz.sizeOf54 (gu hg28 rfl) rfl)) ?_
    obtain ⟨z30, hz31, h⟩ := bnd h
    refine wh1 (c0 := (!(!z12))) (g := (decide (0 < ((i2 : Nat) : Int)))) rfl rfl rfl rfl rfl (fun hg29 => (q_call (call_run Tryz.call77 rfl rfl (args2 (gu hg29 rfl) (gu hg29 rfl))) (fun w hw => t_vers_before (Γ := Gh.all w) ((gt l ((w64 (((i2 : Nat) : Int) - 1)).toNat)).dot) ⟨(hx26 (inb_lt (imp_of hk21 hg29))).1.1, (hx26 (inb_lt (imp_of hk21 hg29))).1.2.1⟩ ((gt l i2).dot) ⟨(hx10 hl7).1.1, (hx10 hl7).1.2.1⟩ (Sat.all w) (gc_of hz31 hg29)))) ?_
    refine wh1 (c0 := (!(!z12))) (g := (decide (0 < ((i2 : Nat) : Int)))) rfl rfl rfl rfl rfl (fun hg32 => QV.qo (q_not rfl (gu hg32 rfl))) ?_
    refine wg0 rfl rfl rfl rfl rfl (fun hg33 => QV.qo (q_pick rfl (gu hg33 rfl) (pk_and (c := (!(!z12))) (g := (decide (0 < ((i2 : Nat) : Int)))) (y := (!z30)) hg33))) ?_
    refine wa rfl rfl rfl (q_pick rfl rfl (pk_or' (g := (!z12)) (y := ((decide (0 < ((i2 : Nat) : Int))) && (!z30))))) ?_
    refine wa rfl rfl rfl (q_move (v := .bool ((!z12) || ((decide (0 < ((i2 : Nat) : Int))) && (!z30)))) rfl (by kernel_rfl)) ?_
    refine wg0 rfl rfl rfl rfl rfl (fun hg34 => QV.qo (q_fl 0 fld_57_0 rfl rfl rfl)) ?_
    refine wg0 rfl rfl rfl rfl rfl (fun hg35 => QV.qo (q_ldla (i := 0) (vs := [.int .i64 (gt l i2).dot.s, .int .i64 (gt l i2).dot.n]) rfl rfl Tryz.isAgg54 Tryz.sizeOf54 (gu hg35 rfl) rfl)) ?_
    refine wg0 rfl rfl rfl rfl rfl (fun hg36 => QV.qo (q_move (v := .slice Al l.length cl) rfl (by kernel_rfl))) ?_
    obtain ⟨z38, hz39, h⟩ := bnd h
    refine wg0 rfl rfl rfl rfl rfl (fun hg37 => (q_call (call_run Tryz.call75 rfl rfl (args2 (gu hg37 rfl) (gu hg37 rfl))) (fun w hw => t_vers_behind (Γ := Gh.all w) ((gt l i2).dot) ⟨(hx10 hl7).1.1, (hx10 hl7).1.2.1⟩ (hl.mono hw.sat.le_all) hlc (Sat.all w) (gc_of hz39 hg37)))) ?_
    refine wa rfl rfl rfl (q_pick rfl rfl (pk_or' (g := ((!z12) || ((decide (0 < ((i2 : Nat) : Int))) && (!z30)))) (y := z38))) ?_
    refine WQ.nil ?_
    change WC _ _ _ _ _ _
    refine WC.cif h (by kernel_rfl) (fun hb40 h => ?_) (fun hb40 h => ?_)
    · skip
      refine WC.rs ?_
      refine va rfl rfl rfl (q_assign (v := .bool false) rfl (by kernel_rfl)) ?_
      refine WR.nil ?_
      change WC _ _ _ _ _ _
      refine WC.ret ?_
      intro w hw
      obtain rfl := Option.some.inj h
      subst hF
      exact ⟨by kernel_rfl, hw.fr⟩
    · skip
      refine WC.skip ?_
      change WC _ _ _ _ _ _
      refine WC.region ?_
      refine va rfl rfl rfl (q_add_r (r := ((i2 + 1 : Nat) : Int)) rfl rfl rfl (ctr_len hl7 hl.le)) ?_
      refine va rfl rfl rfl (q_move (v := .int .i64 ((i2 + 1 : Nat) : Int)) rfl (by kernel_rfl)) ?_
      refine WR.nil ?_
      intro w hw
      exact ⟨hl7, (), h, (sl_ (by kernel_rfl)), (hw.only (is := []) rfl), trivial⟩
  · skip
    have h := hge5 (ige hb6)
    refine WC.exit ?_
    change WC _ _ _ _ _ _
    refine WC.rs ?_
    refine va rfl rfl rfl (q_move (v := .slice Al l.length cl) rfl (by kernel_rfl)) ?_
    refine va rfl rfl rfl (q_len_slice rfl Tryz.underlying48 rfl) ?_
    refine va rfl rfl rfl (q_leq rfl rfl rfl) ?_
    refine va rfl rfl rfl (q_assign (v := .bool (decide (((l.length : Nat) : Int) ≤ 512))) rfl (by kernel_rfl)) ?_
    refine WR.nil ?_
    change WC _ _ _ _ _ _
    refine WC.ret ?_
    intro w hw
    obtain rfl := Option.some.inj h
    subst hF
    exact ⟨by kernel_rfl, hw.fr⟩
set_option maxRecDepth 100000 in
set_option maxHeartbeats 400000 in
theorem t_code_RightRec {Γ : Gh} {w0 : World} {Ar_1 : Option Addr} {cr_1 : Nat} (r_ : Rec) (hr_ : Rec.fits Γ Ar_1 cr_1 r_) (hs : Sat Γ w0) {r : Bool} (h : m_code_RightRec r_ = some r) : Calls Tryz.prog 71 #[.agg #[.string r_.key, .slice Ar_1 r_.vers.length cr_1]] w0 (fun e w' => e = .returned (.bool r) ∧ Fr no w0 w') := by
  refine calls_of (N := 18) (rs := [2]) (args := [.agg #[.string r_.key, .slice Ar_1 r_.vers.length cr_1]]) Tryz.func71 rfl Tryz.ntmps71 Tryz.results71 rfl ?_
  obtain ⟨F, hF⟩ : ∃ F : Fm, F = ⟨no, w0, Γ⟩ := ⟨_, rfl⟩
  refine WC.here (C := CC F Γ []) ?_ (hF ▸ Cur.start0 hs)
  refine WC.rs ?_
  refine e_box (v := .agg #[.string r_.key, .slice Ar_1 r_.vers.length cr_1]) rfl rfl rfl rfl (by kernel_rfl) ?_
  intro g1
  refine va rfl rfl rfl (q_assign (v := .bool false) rfl (by kernel_rfl)) ?_
  refine WR.nil ?_
  change WC _ _ _ _ _ _
  refine WC.rs ?_
  refine va rfl rfl rfl (q_fl 0 fld_51_0 rfl rfl rfl) ?_
  refine va rfl rfl rfl (q_ldl (i := 0) (v := .string r_.key) rfl rfl Tryz.isAgg9 rfl rfl) ?_
  refine va rfl rfl rfl (q_len_str rfl Tryz.underlying9 rfl) ?_
  refine va rfl rfl rfl (q_geq rfl rfl rfl) ?_
  refine va rfl rfl rfl (q_move (v := .bool (decide (1 ≤ ((r_.key.size : Nat) : Int)))) rfl (by kernel_rfl)) ?_
  refine vg1 rfl rfl rfl rfl rfl (fun hg2 => QV.qo (q_fl 0 fld_51_0 rfl rfl rfl)) ?_
  refine vg1 rfl rfl rfl rfl rfl (fun hg3 => QV.qo (q_ldl (i := 0) (v := .string r_.key) rfl rfl Tryz.isAgg9 (gu hg3 rfl) rfl)) ?_
  refine vg1 rfl rfl rfl rfl rfl (fun hg4 => QV.qo (q_len_str rfl Tryz.underlying9 (gu hg4 rfl))) ?_
  refine vg1 rfl rfl rfl rfl rfl (fun hg5 => QV.qo (q_leq rfl (gu hg5 rfl) rfl)) ?_
  refine va rfl rfl rfl (q_pick rfl rfl (pk_and' (g := (decide (1 ≤ ((r_.key.size : Nat) : Int)))) (y := (decide (((r_.key.size : Nat) : Int) ≤ 32))))) ?_
  refine va rfl rfl rfl (q_move (v := .bool ((decide (1 ≤ ((r_.key.size : Nat) : Int))) && (decide (((r_.key.size : Nat) : Int) ≤ 32)))) rfl (by kernel_rfl)) ?_
  refine vg1 rfl rfl rfl rfl rfl (fun hg6 => QV.qo (q_fl 1 fld_51_1 rfl rfl rfl)) ?_
  refine vg1 rfl rfl rfl rfl rfl (fun hg7 => QV.qo (q_ldl (i := 0) (v := .slice Ar_1 r_.vers.length cr_1) rfl rfl Tryz.isAgg48 (gu hg7 rfl) rfl)) ?_
  obtain ⟨z9, hz10, h⟩ := bnd h
  refine vg1 rfl rfl rfl rfl rfl (fun hg8 => (q_call (call_run Tryz.call73 rfl rfl (args1 (gu hg8 rfl))) (fun w hw => t_vers_Right (Γ := Gh.all w) (hr_.2.2.mono hw.sat.le_all) hr_.2.1 (Sat.all w) (gc_of hz10 hg8)))) ?_
  refine va rfl rfl rfl (q_pick rfl rfl (pk_and' (g := ((decide (1 ≤ ((r_.key.size : Nat) : Int))) && (decide (((r_.key.size : Nat) : Int) ≤ 32)))) (y := z9))) ?_
  refine va rfl rfl rfl (q_assign (v := .bool (((decide (1 ≤ ((r_.key.size : Nat) : Int))) && (decide (((r_.key.size : Nat) : Int) ≤ 32))) && z9)) rfl (by kernel_rfl)) ?_
  refine WR.nil ?_
  change WC _ _ _ _ _ _
  refine WC.ret ?_
  intro w hw
  obtain rfl := Option.some.inj h
  subst hF
  exact ⟨by kernel_rfl, hw.fr⟩
set_option maxRecDepth 100000 in
set_option maxHeartbeats 400000 in
theorem t_num_Hash {Γ : Gh} {w0 : World} {Ab : Option Addr} {cb : Nat} {b : List UInt8} (hb : Sl byteT Γ Ab b) (hbc : b.length ≤ cb) (hs : Sat Γ w0) {r : Int} (h : m_num_Hash b = some r) : Calls Tryz.prog 106 #[.slice Ab b.length cb] w0 (fun e w' => e = .returned (.int .u64 r) ∧ Fr no w0 w') := by
  refine calls_of (N := 27) (rs := [2]) (args := [.slice Ab b.length cb]) Tryz.func106 rfl Tryz.ntmps106 Tryz.results106 rfl ?_
  obtain ⟨F, hF⟩ : ∃ F : Fm, F = ⟨no, w0, Γ⟩ := ⟨_, rfl⟩
  refine WC.here (C := CC F Γ []) ?_ (hF ▸ Cur.start0 hs)
  refine WC.rs ?_
  refine va rfl rfl rfl (q_assign (v := .int .u64 0) rfl (by kernel_rfl)) ?_
  refine WR.nil ?_
  change WC _ _ _ _ _ _
  refine WC.rs ?_
  refine va rfl rfl rfl (q_assign (v := .int .u64 14695981039346656037) rfl (by kernel_rfl)) ?_
  refine WR.nil ?_
  change WC _ _ _ _ _ _
  refine WC.seq ?_
  refine WC.rs ?_
  refine va rfl rfl rfl (q_move (v := .slice Ab b.length cb) rfl (by kernel_rfl)) ?_
  refine va rfl rfl rfl (q_len_slice rfl Tryz.underlying97 rfl) ?_
  refine va rfl rfl rfl (q_move (v := .int .i64 0) rfl (by kernel_rfl)) ?_
  refine WR.nil ?_
  change WC _ _ _ _ _ _
  refine WC.block ?_
  refine WC.forI h (fun (i4 : Nat) (h_1 : Int) σ w => slots σ [(3, .int .u64 h_1), (6, .slice Ab b.length cb), (7, .int .i64 ((b.length : Nat) : Int)), (8, .int .i64 ((i4 : Nat) : Int))] ∧ CC F Γ [] w ∧ U64 h_1 ∧ True) ?_ ?_
  · skip
    intro w hw
    exact ⟨(sl_ (by kernel_rfl)), hw, (show U64 14695981039346656037 by decide), trivial⟩
  rintro f3 i4 h_1 σ w hi5 hlt6 hge7 ⟨hsl, hw, hr2, -⟩
  refine Wpt.slots hsl ?_
  refine WC.here (C := CC F Γ []) ?_ hw
  clear hw hsl
  refine WC.rs ?_
  refine va rfl rfl rfl (q_lss rfl rfl rfl) ?_
  refine WR.nil ?_
  change WC _ _ _ _ _ _
  refine WC.seq ?_
  refine WC.cond (b := (decide (((i4 : Nat) : Int) < ((b.length : Nat) : Int)))) (by kernel_rfl) (fun hb8 => ?_) (fun hb8 => ?_)
  · skip
    have hl9 := ilt hb8
    have h := hlt6 hl9
    refine WC.skip ?_
    change WC _ _ _ _ _ _
    refine WC.seq ?_
    refine WC.block ?_
    refine WC.rs ?_
    refine va rfl rfl rfl (q_ixn (i := i4) Tryz.underlying97 Tryz.sizeOf5 rfl rfl rfl hl9 (hb.some_ hl9)) ?_
    refine va rfl rfl rfl (q_ld (c := 0) (v := .int .u8 (((gt b i4).toNat : Nat) : Int)) (hb.byteT_at hl9).2 rfl Tryz.isAgg5 rfl rfl) ?_
    refine va rfl rfl rfl (q_assign (v := .int .u8 (((gt b i4).toNat : Nat) : Int)) rfl (by kernel_rfl)) ?_
    refine WR.nil ?_
    change WC _ _ _ _ _ _
    refine WC.region ?_
    refine va rfl rfl rfl (q_move (v := .int .u64 h_1) rfl (by kernel_rfl)) ?_
    refine va rfl rfl rfl (q_move (v := .int .u8 (((gt b i4).toNat : Nat) : Int)) rfl (by kernel_rfl)) ?_
    refine va rfl rfl rfl (q_conv Tryz.underlying67 Tryz.underlying5 rfl rfl) ?_
    refine va rfl rfl rfl (q_xor rfl rfl rfl) ?_
    refine va rfl rfl rfl (q_mul rfl rfl rfl) ?_
    refine va rfl rfl rfl (q_assign (v := .int .u64 (wu64 ((ixor .u64 h_1 (wu64 (((gt b i4).toNat : Nat) : Int))) * 1099511628211))) rfl (by kernel_rfl)) ?_
    refine WR.nil ?_
    change WC _ _ _ _ _ _
    refine WC.region ?_
    refine va rfl rfl rfl (q_add_r (r := ((i4 + 1 : Nat) : Int)) rfl rfl rfl (ctr_len hl9 hb.le)) ?_
    refine va rfl rfl rfl (q_move (v := .int .i64 ((i4 + 1 : Nat) : Int)) rfl (by kernel_rfl)) ?_
    refine WR.nil ?_
    intro w hw
    exact ⟨hl9, (wu64 ((ixor .u64 h_1 (wu64 (((gt b i4).toNat : Nat) : Int))) * 1099511628211)), h, (sl_ (by kernel_rfl)), hw, (wu64_r _), trivial⟩
  · skip
    have h := hge7 (ige hb8)
    refine WC.exit ?_
    change WC _ _ _ _ _ _
    refine WC.rs ?_
    refine va rfl rfl rfl (q_move (v := .int .u64 h_1) rfl (by kernel_rfl)) ?_
    refine va rfl rfl rfl (q_move (v := .int .u64 h_1) rfl (by kernel_rfl)) ?_
    refine va rfl rfl rfl (q_shr rfl rfl rfl (by decide)) ?_
    refine va rfl rfl rfl (q_xor rfl rfl rfl) ?_
    refine va rfl rfl rfl (q_mul rfl rfl rfl) ?_
    refine va rfl rfl rfl (q_assign (v := .int .u64 (wu64 ((ixor .u64 h_1 (ishr .u64 h_1 33)) * 18397679294719823053))) rfl (by kernel_rfl)) ?_
    refine WR.nil ?_
    change WC _ _ _ _ _ _
    refine WC.rs ?_
    refine va rfl rfl rfl (q_move (v := .int .u64 (wu64 ((ixor .u64 h_1 (ishr .u64 h_1 33)) * 18397679294719823053))) rfl (by kernel_rfl)) ?_
    refine va rfl rfl rfl (q_move (v := .int .u64 (wu64 ((ixor .u64 h_1 (ishr .u64 h_1 33)) * 18397679294719823053))) rfl (by kernel_rfl)) ?_
    refine va rfl rfl rfl (q_shr rfl rfl rfl (by decide)) ?_
    refine va rfl rfl rfl (q_xor rfl rfl rfl) ?_
    refine va rfl rfl rfl (q_assign (v := .int .u64 (ixor .u64 (wu64 ((ixor .u64 h_1 (ishr .u64 h_1 33)) * 18397679294719823053)) (ishr .u64 (wu64 ((ixor .u64 h_1 (ishr .u64 h_1 33)) * 18397679294719823053)) 33))) rfl (by kernel_rfl)) ?_
    refine WR.nil ?_
    change WC _ _ _ _ _ _
    refine WC.ret ?_
    intro w hw
    obtain rfl := Option.some.inj h
    subst hF
    exact ⟨by kernel_rfl, hw.fr⟩
abbrev r_tree_Place (r : List Int) (U : List Rowb) (Γ : Gh) (v : Value) : Prop := ∃ (A0 : Option Addr), ∃ (c0 : Nat), ∃ (row0 : Rowb), v = .slice A0 r.length c0 ∧ U = [row0] ∧ Own intT Γ 3 row0 A0 c0 r ∧ True
set_option maxRecDepth 100000 in
set_option maxHeartbeats 400000 in
theorem t_tree_Place {Γ : Gh} {w0 : World} (key : ByteArray) (hkey : key.size ≤ lim) (hp : Pre [] Γ w0) {r : List Int} (h : m_tree_Place key = some r) : Calls Tryz.prog 87 #[.string key] w0 (Outc Γ [] w0 (r_tree_Place r)) := by
  refine calls_of (N := 15) (rs := [2]) (args := [.string key]) Tryz.func87 rfl Tryz.ntmps87 Tryz.results87 rfl ?_
  obtain ⟨F, hF⟩ : ∃ F : Fm, F = ⟨ids [], w0, Γ⟩ := ⟨_, rfl⟩
  refine WC.here (C := CC F Γ []) ?_ (hF ▸ hp.start)
  refine WC.rs ?_
  refine va rfl rfl rfl (q_assign (v := .slice none 0 0) rfl (by kernel_rfl)) ?_
  refine WR.nil ?_
  change WC _ _ _ _ _ _
  refine WC.rs ?_
  refine va rfl rfl rfl (q_move (v := .string key) rfl (by kernel_rfl)) ?_
  refine e_convB (src := 9) (dst := 97) (s := key) Tryz.underlying9 Tryz.underlying97 Tryz.underlying5 hkey rfl rfl rfl rfl rfl ?_
  intro Γ1 A2 c3 hl4 hs5 hc6
  obtain ⟨z7, hz8, h⟩ := bnd h
  refine vc rfl rfl rfl (q_call (call_run Tryz.call106 rfl rfl (by kernel_rfl)) (fun w hw => t_num_Hash (Γ := Gh.all w) (hs5.mono hw.sat.le_all) hc6 (Sat.all w) hz8)) ?_
  refine va rfl rfl rfl (q_assign (v := .int .u64 z7) rfl (by kernel_rfl)) ?_
  refine WR.nil ?_
  change WC _ _ _ _ _ _
  refine WC.rs ?_
  refine va rfl rfl rfl (q_move (v := .int .u64 z7) rfl (by kernel_rfl)) ?_
  refine va rfl rfl rfl (q_shr rfl rfl rfl (by decide)) ?_
  refine va rfl rfl rfl (q_conv Tryz.underlying3 Tryz.underlying67 rfl rfl) ?_
  refine va rfl rfl rfl (q_move (v := .int .u64 z7) rfl (by kernel_rfl)) ?_
  refine va rfl rfl rfl (q_shr rfl rfl rfl (by decide)) ?_
  refine va rfl rfl rfl (q_and rfl rfl rfl) ?_
  refine va rfl rfl rfl (q_conv Tryz.underlying3 Tryz.underlying67 rfl rfl) ?_
  refine e_buildSlice (cs := #[.int .i64 (w64 (ishr .u64 z7 60)), .int .i64 (w64 (iand .u64 (ishr .u64 z7 56) 15))]) (e := 3) rfl rfl rfl rfl (fun w => by kernel_rfl) ?_
  intro g9
  refine va rfl rfl rfl (q_assign (v := .slice (some ⟨g9, 0, none⟩) 2 2) rfl (by kernel_rfl)) ?_
  refine WR.nil ?_
  change WC _ _ _ _ _ _
  refine WC.ret ?_
  intro w hw
  have ho10 : Own intT Γ1 3 [(g9, .cells #[.int .i64 (w64 (ishr .u64 z7 60)), .int .i64 (w64 (iand .u64 (ishr .u64 z7 56) 15))] 3 (0, 0))] (some ⟨g9, 0, none⟩) 2 [(w64 (ishr .u64 z7 60)), (w64 (iand .u64 (ishr .u64 z7 56) 15))] := Own.of_blockL (T := intT) (ys := [(w64 (ishr .u64 z7 60)), (w64 (iand .u64 (ishr .u64 z7 56) 15))]) [[.int .i64 (w64 (ishr .u64 z7 60))], [.int .i64 (w64 (iand .u64 (ishr .u64 z7 56) 15))]] rfl (show 2 ≤ lim by decide) (show Ty.rd intT Γ1 [.int .i64 (w64 (ishr .u64 z7 60))] (w64 (ishr .u64 z7 60)) ∧ Ty.rd intT Γ1 [.int .i64 (w64 (iand .u64 (ishr .u64 z7 56) 15))] (w64 (iand .u64 (ishr .u64 z7 56) 15)) ∧ True from ⟨⟨rfl, (w64_r _)⟩, ⟨rfl, (w64_r _)⟩, trivial⟩)
  obtain rfl := Option.some.inj h
  subst hF
  exact end_e (is := [0]) (by kernel_rfl) hw rfl ⟨(some ⟨g9, 0, none⟩), 2, [(g9, .cells #[.int .i64 (w64 (ishr .u64 z7 60)), .int .i64 (w64 (iand .u64 (ishr .u64 z7 56) 15))] 3 (0, 0))], rfl, rfl, ho10, trivial⟩
abbrev r_slices_Clone_api_Ver_api_Ver (r : List Ver) (U : List Rowb) (Γ : Gh) (v : Value) : Prop := ∃ (A0 : Option Addr), ∃ (c0 : Nat), ∃ (row0 : Rowb), v = .slice A0 r.length c0 ∧ U = [row0] ∧ Own verT Γ 57 row0 A0 c0 r ∧ True
set_option maxRecDepth 100000 in
set_option maxHeartbeats 400000 in
theorem t_slices_Clone_api_Ver_api_Ver {Γ : Gh} {w0 : World} {As_ : Option Addr} {cs_ : Nat} {s_ : List Ver} (hs_ : Sl verT Γ As_ s_) (hs_c : s_.length ≤ cs_) (hp : Pre [] Γ w0) {r : List Ver} (h : m_slices_Clone_api_Ver_api_Ver s_ = some r) : Calls Tryz.prog 92 #[.slice As_ s_.length cs_] w0 (Outc Γ [] w0 (r_slices_Clone_api_Ver_api_Ver r)) := by
  refine calls_of (N := 8) (rs := [2]) (args := [.slice As_ s_.length cs_]) Tryz.func92 rfl Tryz.ntmps92 Tryz.results92 rfl ?_
  obtain ⟨F, hF⟩ : ∃ F : Fm, F = ⟨ids [], w0, Γ⟩ := ⟨_, rfl⟩
  refine WC.here (C := CC F Γ []) ?_ (hF ▸ hp.start)
  refine WC.rs ?_
  refine va rfl rfl rfl (q_assign (v := .slice none 0 0) rfl (by kernel_rfl)) ?_
  refine WR.nil ?_
  change WC _ _ _ _ _ _
  refine WC.seq ?_
  refine WC.rs ?_
  refine va rfl rfl rfl (q_move (v := .slice As_ s_.length cs_) rfl (by kernel_rfl)) ?_
  refine va rfl rfl rfl (q_nil_slice Tryz.underlying48 rfl rfl rfl) ?_
  refine WR.nil ?_
  change WC _ _ _ _ _ _
  refine WC.cnil h (by kernel_rfl) (fun hb => hs_.none_nil hb) (fun hb1 h => ?_) (fun hb1 h => ?_)
  · skip
    refine WC.rs ?_
    refine va rfl rfl rfl (q_assign (v := .slice none 0 0) rfl (by kernel_rfl)) ?_
    refine WR.nil ?_
    change WC _ _ _ _ _ _
    refine WC.ret ?_
    intro w hw
    have hw := hw.pad
    obtain rfl := Option.some.inj h
    subst hF
    exact end_e (is := [0]) (by kernel_rfl) hw rfl ⟨none, 0, [], rfl, rfl, (Own.nil verT _ 57), trivial⟩
  · skip
    refine WC.skip ?_
    change WC _ _ _ _ _ _
    refine WC.rs ?_
    refine e_buildSlice (cs := #[]) (e := 57) rfl rfl rfl rfl (fun w => by kernel_rfl) ?_
    intro g2
    refine va rfl rfl rfl (q_move (v := .slice As_ s_.length cs_) rfl (by kernel_rfl)) ?_
    have ho3 : Own verT Γ 57 [(g2, .cells #[] 57 (0, 0))] (some ⟨g2, 0, none⟩) 0 ([] : List Ver) := Own.of_blockL (T := verT) (ys := ([] : List Ver)) [] rfl (show 0 ≤ lim by decide) (show True from trivial)
    obtain ⟨hk4, h⟩ := chk_some h
    refine e_append (T := verT) (xs := ([] : List Ver)) (ys := s_) elem_48 (i := 0) rfl rfl rfl rfl rfl rfl rfl ho3 (of_decide_eq_true hk4) (fun w hw => src_sl hs_ hw) ?_
    intro row5 A6 c7 ho8
    refine va rfl rfl rfl (q_assign (v := .slice A6 (([] : List Ver) ++ s_).length c7) rfl (by kernel_rfl)) ?_
    refine WR.nil ?_
    change WC _ _ _ _ _ _
    refine WC.ret ?_
    intro w hw
    obtain rfl := Option.some.inj h
    subst hF
    exact end_e (is := [0]) (by kernel_rfl) hw rfl ⟨A6, c7, row5, rfl, rfl, ho8, trivial⟩
abbrev r_slices_Clone_api_Span_api_Span (r : List Span) (U : List Rowb) (Γ : Gh) (v : Value) : Prop := ∃ (A0 : Option Addr), ∃ (c0 : Nat), ∃ (row0 : Rowb), v = .slice A0 r.length c0 ∧ U = [row0] ∧ Own spanT Γ 59 row0 A0 c0 r ∧ True
set_option maxRecDepth 100000 in
set_option maxHeartbeats 400000 in
theorem t_slices_Clone_api_Span_api_Span {Γ : Gh} {w0 : World} {As_ : Option Addr} {cs_ : Nat} {s_ : List Span} (hs_ : Sl spanT Γ As_ s_) (hs_c : s_.length ≤ cs_) (hp : Pre [] Γ w0) {r : List Span} (h : m_slices_Clone_api_Span_api_Span s_ = some r) : Calls Tryz.prog 93 #[.slice As_ s_.length cs_] w0 (Outc Γ [] w0 (r_slices_Clone_api_Span_api_Span r)) := by
  refine calls_of (N := 8) (rs := [2]) (args := [.slice As_ s_.length cs_]) Tryz.func93 rfl Tryz.ntmps93 Tryz.results93 rfl ?_
  obtain ⟨F, hF⟩ : ∃ F : Fm, F = ⟨ids [], w0, Γ⟩ := ⟨_, rfl⟩
  refine WC.here (C := CC F Γ []) ?_ (hF ▸ hp.start)
  refine WC.rs ?_
  refine va rfl rfl rfl (q_assign (v := .slice none 0 0) rfl (by kernel_rfl)) ?_
  refine WR.nil ?_
  change WC _ _ _ _ _ _
  refine WC.seq ?_
  refine WC.rs ?_
  refine va rfl rfl rfl (q_move (v := .slice As_ s_.length cs_) rfl (by kernel_rfl)) ?_
  refine va rfl rfl rfl (q_nil_slice Tryz.underlying55 rfl rfl rfl) ?_
  refine WR.nil ?_
  change WC _ _ _ _ _ _
  refine WC.cnil h (by kernel_rfl) (fun hb => hs_.none_nil hb) (fun hb1 h => ?_) (fun hb1 h => ?_)
  · skip
    refine WC.rs ?_
    refine va rfl rfl rfl (q_assign (v := .slice none 0 0) rfl (by kernel_rfl)) ?_
    refine WR.nil ?_
    change WC _ _ _ _ _ _
    refine WC.ret ?_
    intro w hw
    have hw := hw.pad
    obtain rfl := Option.some.inj h
    subst hF
    exact end_e (is := [0]) (by kernel_rfl) hw rfl ⟨none, 0, [], rfl, rfl, (Own.nil spanT _ 59), trivial⟩
  · skip
    refine WC.skip ?_
    change WC _ _ _ _ _ _
    refine WC.rs ?_
    refine e_buildSlice (cs := #[]) (e := 59) rfl rfl rfl rfl (fun w => by kernel_rfl) ?_
    intro g2
    refine va rfl rfl rfl (q_move (v := .slice As_ s_.length cs_) rfl (by kernel_rfl)) ?_
    have ho3 : Own spanT Γ 59 [(g2, .cells #[] 59 (0, 0))] (some ⟨g2, 0, none⟩) 0 ([] : List Span) := Own.of_blockL (T := spanT) (ys := ([] : List Span)) [] rfl (show 0 ≤ lim by decide) (show True from trivial)
    obtain ⟨hk4, h⟩ := chk_some h
    refine e_append (T := spanT) (xs := ([] : List Span)) (ys := s_) elem_55 (i := 0) rfl rfl rfl rfl rfl rfl rfl ho3 (of_decide_eq_true hk4) (fun w hw => src_sl hs_ hw) ?_
    intro row5 A6 c7 ho8
    refine va rfl rfl rfl (q_assign (v := .slice A6 (([] : List Span) ++ s_).length c7) rfl (by kernel_rfl)) ?_
    refine WR.nil ?_
    change WC _ _ _ _ _ _
    refine WC.ret ?_
    intro w hw
    obtain rfl := Option.some.inj h
    subst hF
    exact end_e (is := [0]) (by kernel_rfl) hw rfl ⟨A6, c7, row5, rfl, rfl, ho8, trivial⟩
abbrev r_tree_own (r : Rec) (U : List Rowb) (Γ : Gh) (v : Value) : Prop := ∃ (A0_1 : Option Addr), ∃ (c0_1 : Nat), v = .agg #[.string r.key, .slice A0_1 r.vers.length c0_1] ∧ U = [] ∧ Rec.fits Γ A0_1 c0_1 r ∧ True
set_option maxRecDepth 100000 in
set_option maxHeartbeats 400000 in
theorem t_tree_own {Γ : Gh} {w0 : World} {Ar_1 : Option Addr} {cr_1 : Nat} (r_ : Rec) (hr_ : Rec.fits Γ Ar_1 cr_1 r_) (hp : Pre [] Γ w0) {r : Rec} (h : m_tree_own r_ = some r) : Calls Tryz.prog 66 #[.agg #[.string r_.key, .slice Ar_1 r_.vers.length cr_1]] w0 (Outc Γ [] w0 (r_tree_own r)) := by
  refine calls_of_r (N := 28) (rs := [.cell 2 51]) (args := [.agg #[.string r_.key, .slice Ar_1 r_.vers.length cr_1]]) Tryz.func66 rfl Tryz.ntmps66 Tryz.results66 rfl ?_
  obtain ⟨F, hF⟩ : ∃ F : Fm, F = ⟨ids [], w0, Γ⟩ := ⟨_, rfl⟩
  refine WC.here (C := CC F Γ []) ?_ (hF ▸ hp.start)
  refine WC.rs ?_
  refine e_box (v := .agg #[.string r_.key, .slice Ar_1 r_.vers.length cr_1]) rfl rfl rfl rfl (by kernel_rfl) ?_
  intro g1
  refine e_alloc Tryz.zeroValue51 rfl rfl rfl rfl ?_
  intro g2
  refine WR.nil ?_
  change WC _ _ _ _ _ _
  refine WC.rs ?_
  refine va rfl rfl rfl (q_fl 1 fld_51_1 rfl rfl rfl) ?_
  refine va rfl rfl rfl (q_ldl (i := 1) (v := .slice Ar_1 r_.vers.length cr_1) rfl rfl Tryz.isAgg48 rfl rfl) ?_
  obtain ⟨z3, hz4, h⟩ := bnd h
  refine e_call (is := []) rfl rfl (call_run Tryz.call92 rfl rfl (by kernel_rfl)) rfl (fun w hp => t_slices_Clone_api_Ver_api_Ver hr_.2.2 hr_.2.1 hp hz4) ?_
  rintro Γ5 U7 v8 hl6 ⟨A9, c10, row11, rfl, rfl, hr12, _⟩
  change WR _ _ _ (CC F Γ5 [row11, [(g2, .cells #[.string ByteArray.empty, .slice none 0 0] 51 (0, 0))], [(g1, .cells #[.string r_.key, .slice Ar_1 r_.vers.length cr_1] 51 (0, 0))]]) _ _ (upd _ 6 (.slice A9 z3.length c10))
  refine va rfl rfl rfl (q_fl 1 fld_51_1 rfl rfl rfl) ?_
  refine e_st (i := 2) (v := .slice A9 z3.length c10) (new := #[.string r_.key, .slice A9 z3.length c10]) rfl Tryz.sizeOf48 rfl rfl rfl rfl (by kernel_rfl) rfl rfl rfl rfl ?_
  refine WR.nil ?_
  change WC _ _ _ _ _ _
  refine WC.seq ?_
  refine WC.rs ?_
  refine va rfl rfl rfl (q_fl 1 fld_51_1 rfl rfl rfl) ?_
  refine va rfl rfl rfl (q_ldl (i := 2) (v := .slice A9 z3.length c10) rfl rfl Tryz.isAgg48 rfl rfl) ?_
  refine va rfl rfl rfl (q_len_slice rfl Tryz.underlying48 rfl) ?_
  refine va rfl rfl rfl (q_move (v := .int .i64 0) rfl (by kernel_rfl)) ?_
  refine WR.nil ?_
  change WC _ _ _ _ _ _
  refine WC.block ?_
  refine WC.forU h (fun (i20 : Nat) (x15 : List Ver) σ w => ∃ (Γ13 : Gh), ∃ (row16 : Rowb), slots σ [(1, .pointer (some ⟨g1, 0, none⟩)), (2, .pointer (some ⟨g2, 0, none⟩)), (10, .int .i64 ((z3.length : Nat) : Int)), (11, .int .i64 ((i20 : Nat) : Int))] ∧ CC F Γ13 [row16, [(g2, .cells #[.string ByteArray.empty, .slice none 0 0] 51 (0, 0))], [(g1, .cells #[.string r_.key, .slice A9 z3.length c10] 51 (0, 0))]] w ∧ Gh.le Γ5 Γ13 ∧ x15.length = z3.length ∧ Own verT Γ13 57 row16 A9 c10 x15 ∧ True) ?_ ?_
  · skip
    intro w hw
    exact ⟨Γ5, row11, (sl_ (by kernel_rfl)), hw, (Gh.refl _), rfl, hr12, trivial⟩
  rintro f19 i20 x15 σ w hi21 hlt22 hge23 ⟨Γ13, row16, hsl, hw, hl14, hn18, ho17, -⟩
  refine Wpt.slots hsl ?_
  refine WC.here (C := CC F Γ13 [row16, [(g2, .cells #[.string ByteArray.empty, .slice none 0 0] 51 (0, 0))], [(g1, .cells #[.string r_.key, .slice A9 z3.length c10] 51 (0, 0))]]) ?_ hw
  clear hw hsl
  refine WC.rs ?_
  refine va rfl rfl rfl (q_lss rfl rfl rfl) ?_
  refine WR.nil ?_
  change WC _ _ _ _ _ _
  refine WC.seq ?_
  refine WC.cond (b := (decide (((i20 : Nat) : Int) < ((z3.length : Nat) : Int)))) (by kernel_rfl) (fun hb24 => ?_) (fun hb24 => ?_)
  · skip
    have hl25 := ilt hb24
    have h := hlt22 hl25
    refine WC.skip ?_
    change WC _ _ _ _ _ _
    refine WC.seq ?_
    refine WC.block ?_
    refine WC.rs ?_
    refine va rfl rfl rfl (q_move (v := .int .i64 ((i20 : Nat) : Int)) rfl (by kernel_rfl)) ?_
    refine va rfl rfl rfl (q_assign (v := .int .i64 ((i20 : Nat) : Int)) rfl (by kernel_rfl)) ?_
    refine WR.nil ?_
    change WC _ _ _ _ _ _
    intro w hw; have h026 := hw.le
    refine WC.here (C := CC F Γ13 [row16, [(g2, .cells #[.string ByteArray.empty, .slice none 0 0] 51 (0, 0))], [(g1, .cells #[.string r_.key, .slice A9 z3.length c10] 51 (0, 0))]]) ?_ hw; clear hw
    refine WC.held (CC F Γ13 [[(g2, .cells #[.string ByteArray.empty, .slice none 0 0] 51 (0, 0))], [(g1, .cells #[.string r_.key, .slice A9 z3.length c10] 51 (0, 0))]]) (by kernel_rfl) (fun w hw => hw.drawn _) ?_
    change WH _ _ _ _ (CC F Γ13 [row16, [(g2, .cells #[.string ByteArray.empty, .slice none 0 0] 51 (0, 0))], [(g1, .cells #[.string r_.key, .slice A9 z3.length c10] 51 (0, 0))]]) _ 13 #[false, false, false, false, false, false, false, false, false, false, false, false, false] _
    refine ht (i := 0) rfl (by kernel_rfl) rfl rfl rfl (fun w hw => hw.back (Gh.refl _) h026 (.cons _ (.cons_cons _ (.cons_cons _ .slnil)))) (q_fl 1 fld_51_1 rfl rfl rfl) ?_
    refine ht (i := 1) rfl (by kernel_rfl) rfl rfl rfl (fun w hw => hw.back (Gh.refl _) h026 (.cons _ (.cons_cons _ (.cons_cons _ .slnil)))) (q_ldl (i := 1) (v := .slice A9 z3.length c10) rfl rfl Tryz.isAgg48 rfl rfl) ?_
    refine ht (i := 2) rfl (by kernel_rfl) rfl rfl rfl (fun w hw => hw.back (Gh.refl _) h026 (.cons _ (.cons_cons _ (.cons_cons _ .slnil)))) (q_move (v := .int .i64 ((i20 : Nat) : Int)) rfl (by kernel_rfl)) ?_
    refine ht (i := 3) rfl (by kernel_rfl) rfl rfl rfl (fun w hw => hw.back (Gh.refl _) h026 (.cons _ (.cons_cons _ (.cons_cons _ .slnil)))) (q_fl 1 fld_51_1 rfl rfl rfl) ?_
    refine ht (i := 4) rfl (by kernel_rfl) rfl rfl rfl (fun w hw => hw.back (Gh.refl _) h026 (.cons _ (.cons_cons _ (.cons_cons _ .slnil)))) (q_ldl (i := 1) (v := .slice A9 z3.length c10) rfl rfl Tryz.isAgg48 rfl rfl) ?_
    refine ht (i := 5) rfl (by kernel_rfl) rfl rfl rfl (fun w hw => hw.back (Gh.refl _) h026 (.cons _ (.cons_cons _ (.cons_cons _ .slnil)))) (q_move (v := .int .i64 ((i20 : Nat) : Int)) rfl (by kernel_rfl)) ?_
    refine WH.lone (i := 6) (by kernel_rfl) rfl ?_
    refine va rfl rfl rfl (q_ixn (i := i20) Tryz.underlying48 Tryz.sizeOf57 rfl rfl rfl hl25 (ho17.some_ (ltq hl25 hn18.symm))) ?_
    refine WR.nil ?_
    refine WH.next (fun w hw => hw.back (Gh.refl _) h026 (.cons _ (.cons_cons _ (.cons_cons _ .slnil)))) ?_
    refine WH.lone (i := 7) (by kernel_rfl) rfl ?_
    refine va rfl rfl rfl (q_field_addr (i20 * 5 + 2) fld_57_1 rfl rfl (ho17.some_ (ltq hl25 hn18.symm)) rfl) ?_
    refine WR.nil ?_
    refine WH.next (fun w hw => hw.back (Gh.refl _) h026 (.cons _ (.cons_cons _ (.cons_cons _ .slnil)))) ?_
    refine WH.lone (i := 8) (by kernel_rfl) rfl ?_
    obtain ⟨A27, c28, hx29⟩ := ho17.verT_at i20
    refine va rfl rfl rfl (q_ldo (c := 2) (v := .slice A27 ((gt x15 i20).past).length c28) (i := 0) rfl (hx29 (ltq hl25 hn18.symm)).2 rfl Tryz.isAgg55 rfl rfl) ?_
    refine WR.nil ?_
    refine WH.next (fun w hw => hw.back (Gh.refl _) h026 (.cons _ (.cons_cons _ (.cons_cons _ .slnil)))) ?_
    refine WH.lone (i := 9) (by kernel_rfl) rfl ?_
    obtain ⟨z30, hz31, h⟩ := bnd h
    refine e_call (is := []) rfl rfl (call_run Tryz.call93 rfl rfl (by kernel_rfl)) rfl (fun w hp => t_slices_Clone_api_Span_api_Span (hx29 (ltq hl25 hn18.symm)).1.2.2.1.2 (hx29 (ltq hl25 hn18.symm)).1.2.2.1.1 hp hz31) ?_
    rintro Γ32 U34 v35 hl33 ⟨A36, c37, row38, rfl, rfl, hr39, _⟩
    change WR _ _ _ (CC F Γ32 [row38, row16, [(g2, .cells #[.string ByteArray.empty, .slice none 0 0] 51 (0, 0))], [(g1, .cells #[.string r_.key, .slice A9 z3.length c10] 51 (0, 0))]]) _ _ (upd _ 23 (.slice A36 z30.length c37))
    refine WR.nil ?_
    refine WH.next (fun w hw => hw.back hl33 h026 (.cons _ (.cons _ (.cons_cons _ (.cons_cons _ .slnil))))) ?_
    refine WH.lone (i := 10) (by kernel_rfl) rfl ?_
    refine va rfl rfl rfl (q_ixn (i := i20) Tryz.underlying48 Tryz.sizeOf57 rfl rfl rfl hl25 ((ho17.mono hl33).some_ (ltq hl25 hn18.symm))) ?_
    refine WR.nil ?_
    refine WH.next (fun w hw => hw.back hl33 h026 (.cons _ (.cons _ (.cons_cons _ (.cons_cons _ .slnil))))) ?_
    refine WH.lone (i := 11) (by kernel_rfl) rfl ?_
    refine va rfl rfl rfl (q_field_addr (i20 * 5 + 2) fld_57_1 rfl rfl ((ho17.mono hl33).some_ (ltq hl25 hn18.symm)) rfl) ?_
    refine WR.nil ?_
    refine WH.next (fun w hw => hw.back hl33 h026 (.cons _ (.cons _ (.cons_cons _ (.cons_cons _ .slnil))))) ?_
    refine WH.lone (i := 12) (by kernel_rfl) rfl ?_
    have hc44 := hr39.capz
    intro w hw; obtain ⟨Γ40, hw, hl41, hr42⟩ := hw.seal (i := 0) rfl; have hs43 := hr39.sl hl41 hr42
    refine WR.here (C := CC F Γ40 [[], row16, [(g2, .cells #[.string ByteArray.empty, .slice none 0 0] 51 (0, 0))], [(g1, .cells #[.string r_.key, .slice A9 z3.length c10] 51 (0, 0))]]) ?_ hw
    clear hw
    refine e_store_part (T := verT) (q := i20) (f := 2) (v := .slice A36 z30.length c37) (vs := [.slice A36 z30.length c37]) (cs := [.int .i64 (gt x15 i20).dot.s, .int .i64 (gt x15 i20).dot.n, .slice A27 ((gt x15 i20).past).length c28, .bool (gt x15 i20).gone, .string (gt x15 i20).val]) (new := [.int .i64 (gt x15 i20).dot.s, .int .i64 (gt x15 i20).dot.n, .slice A36 z30.length c37, .bool (gt x15 i20).gone, .string (gt x15 i20).val]) (y := (⟨(⟨(gt x15 i20).dot.s, (gt x15 i20).dot.n⟩ : Dot), z30, (gt x15 i20).gone, (gt x15 i20).val⟩ : Ver)) rfl rfl rfl rfl (by kernel_rfl) Tryz.sizeOf55 rfl (hx29 (ltq hl25 hn18.symm)).2 rfl (Nat.le_of_ble_eq_true rfl) rfl (by exact ⟨A36, c37, rfl, ⟨(hx29 (ltq hl25 hn18.symm)).1.1, (hx29 (ltq hl25 hn18.symm)).1.2.1, ⟨hc44, hs43⟩, (hx29 (ltq hl25 hn18.symm)).1.2.2.2⟩⟩) (i := 1) rfl (ho17.mono (hl33.trans hl41)) (ltq hl25 hn18.symm) ?_
    intro row45 ho46
    refine WR.nil ?_
    refine WH.next (fun w hw => hw.back (hl33.trans hl41) h026 (.cons _ (.cons _ (.cons_cons _ (.cons_cons _ .slnil))))) ?_
    refine WH.done (by kernel_rfl) ?_
    change WC _ _ _ _ _ _
    refine WC.region ?_
    refine va rfl rfl rfl (q_add_r (r := ((i20 + 1 : Nat) : Int)) rfl rfl rfl (ctr_len hl25 (hn18 ▸ ho17.le))) ?_
    refine va rfl rfl rfl (q_move (v := .int .i64 ((i20 + 1 : Nat) : Int)) rfl (by kernel_rfl)) ?_
    refine WR.nil ?_
    intro w hw
    exact ⟨hl25, (List.set x15 i20 (⟨(⟨(gt x15 i20).dot.s, (gt x15 i20).dot.n⟩ : Dot), z30, (gt x15 i20).gone, (gt x15 i20).val⟩ : Ver)), h, Γ40, row45, (sl_ (by kernel_rfl)), (hw.only (is := [1, 1, 1]) rfl), ((hl14.trans hl33).trans hl41), (List.length_set.trans hn18), ho46, trivial⟩
  · skip
    have h := hge23 (ige hb24)
    refine WC.exit ?_
    change WC _ _ _ _ _ _
    refine WC.rs ?_
    refine va rfl rfl rfl (q_ldla (i := 2) (vs := [.string r_.key, .slice A9 z3.length c10]) rfl rfl Tryz.isAgg51 Tryz.sizeOf51 rfl rfl) ?_
    refine e_st (i := 1) (v := .agg #[.string r_.key, .slice A9 z3.length c10]) (new := #[.string r_.key, .slice A9 z3.length c10]) rfl Tryz.sizeOf51 rfl rfl rfl rfl (by kernel_rfl) rfl rfl rfl rfl ?_
    refine WR.nil ?_
    change WC _ _ _ _ _ _
    refine WC.ret ?_
    rw [show Value.slice A9 (z3.length) c10 = Value.slice A9 (x15.length) c10 from by rw [hn18]]
    intro w hw
    have hc51 := ho17.capz
    obtain ⟨Γ47, hw, hl48, hr49⟩ := hw.seal (i := 0) rfl; have hs50 := ho17.sl hl48 hr49
    obtain rfl := Option.some.inj h
    subst hF
    exact ⟨[.agg #[.string r_.key, .slice A9 x15.length c10]], (rr_agg (i := 1) (us := [.string r_.key, .slice A9 x15.length c10]) hw rfl Tryz.isAgg51 Tryz.sizeOf51 (by kernel_rfl) rfl rr_nil), end_e (is := []) (by kernel_rfl) hw rfl ⟨A9, c10, rfl, rfl, ⟨hr_.1, ⟨hc51, hs50⟩⟩, trivial⟩⟩
abbrev r_tree_Tree_Set (gt_ : Nat) (r : OTree × Int) (U : List Rowb) (Γ : Gh) (v : Value) : Prop := ∃ (rowt_' : Rowb), v = .int .i64 r.2 ∧ U = [rowt_'] ∧ OTree.ob (tg0 105) Γ gt_ rowt_' r.1 ∧ I64 r.2 ∧ True
set_option maxRecDepth 100000 in
set_option maxHeartbeats 400000 in
theorem t_tree_Tree_Set {Γ : Gh} {w0 : World} {gt_ : Nat} {rowt_ : Rowb} {t_ : OTree} (ht_ : OTree.ob (tg0 105) Γ gt_ rowt_ t_) {Ar_1 : Option Addr} {cr_1 : Nat} (r_ : Rec) (hr_ : Rec.fits Γ Ar_1 cr_1 r_) (hp : Pre [rowt_] Γ w0) {r : OTree × Int} (h : m_tree_Tree_Set t_ r_ = some r) : Calls Tryz.prog 61 #[.pointer (some ⟨gt_, 0, none⟩), .agg #[.string r_.key, .slice Ar_1 r_.vers.length cr_1]] w0 (Outc Γ [rowt_] w0 (r_tree_Tree_Set gt_ r)) := by
  refine calls_of (N := 71) (rs := [4]) (args := [.pointer (some ⟨gt_, 0, none⟩), .agg #[.string r_.key, .slice Ar_1 r_.vers.length cr_1]]) Tryz.func61 rfl Tryz.ntmps61 Tryz.results61 rfl ?_
  obtain ⟨F, hF⟩ : ∃ F : Fm, F = ⟨ids [rowt_], w0, Γ⟩ := ⟨_, rfl⟩
  refine WC.here (C := CC F Γ [rowt_]) ?_ (hF ▸ hp.start)
  refine WC.rs ?_
  refine e_box (v := .agg #[.string r_.key, .slice Ar_1 r_.vers.length cr_1]) rfl rfl rfl rfl (by kernel_rfl) ?_
  intro g1
  refine va rfl rfl rfl (q_assign (v := .int .i64 0) rfl (by kernel_rfl)) ?_
  refine WR.nil ?_
  change WC _ _ _ _ _ _
  refine WC.seq ?_
  refine WC.rs ?_
  refine va rfl rfl rfl (q_ldla (i := 0) (vs := [.string r_.key, .slice Ar_1 r_.vers.length cr_1]) rfl rfl Tryz.isAgg51 Tryz.sizeOf51 rfl rfl) ?_
  obtain ⟨z2, hz3, h⟩ := bnd h
  refine vc rfl rfl rfl (q_call (call_run Tryz.call71 rfl rfl (by kernel_rfl)) (fun w hw => t_code_RightRec (Γ := Gh.all w) r_ (Rec.fits_mono hr_ hw.sat.le_all) (Sat.all w) hz3)) ?_
  refine va rfl rfl rfl (q_not rfl rfl) ?_
  refine WR.nil ?_
  change WC _ _ _ _ _ _
  refine WC.cif h (by kernel_rfl) (fun hb4 h => ?_) (fun hb4 h => ?_)
  · skip
    refine WC.rs ?_
    refine va rfl rfl rfl (q_assign (v := .int .i64 1) rfl (by kernel_rfl)) ?_
    refine WR.nil ?_
    change WC _ _ _ _ _ _
    refine WC.ret ?_
    intro w hw
    obtain rfl := Option.some.inj h
    subst hF
    exact end_e (is := [1]) (by kernel_rfl) hw rfl ⟨rowt_, rfl, rfl, ht_, (show I64 1 by decide), trivial⟩
  · skip
    refine WC.skip ?_
    change WC _ _ _ _ _ _
    refine WC.rs ?_
    refine va rfl rfl rfl (q_fl 0 fld_51_0 rfl rfl rfl) ?_
    refine va rfl rfl rfl (q_ldl (i := 0) (v := .string r_.key) rfl rfl Tryz.isAgg9 rfl rfl) ?_
    obtain ⟨z5, hz6, h⟩ := bnd h
    refine e_call (is := []) rfl rfl (call_run Tryz.call87 rfl rfl (by kernel_rfl)) rfl (fun w hp => t_tree_Place r_.key hr_.1 hp hz6) ?_
    rintro Γ7 U9 v10 hl8 ⟨A11, c12, row13, rfl, rfl, hr14, _⟩
    change WR _ _ _ (CC F Γ7 [row13, [(g1, .cells #[.string r_.key, .slice Ar_1 r_.vers.length cr_1] 51 (0, 0))], rowt_]) _ _ (upd _ 12 (.slice A11 z5.length c12))
    refine va rfl rfl rfl (q_assign (v := .slice A11 z5.length c12) rfl (by kernel_rfl)) ?_
    refine WR.nil ?_
    change WC _ _ _ _ _ _
    refine WC.seq ?_
    refine WC.dr (by kernel_rfl) (by kernel_rfl) (fun w hw => hw.drawn _) ?_
    refine wa rfl rfl rfl (q_move (v := .pointer (some ⟨gt_, 0, none⟩)) rfl (by kernel_rfl)) ?_
    refine wa rfl rfl rfl (q_move (v := .slice A11 z5.length c12) rfl (by kernel_rfl)) ?_
    obtain ⟨hk15, h⟩ := chk_some h
    refine wa rfl rfl rfl (q_ixn (i := 0) Tryz.underlying23 Tryz.sizeOf3 rfl rfl rfl (of_decide_eq_true hk15) (hr14.some_ (of_decide_eq_true hk15))) ?_
    refine wa rfl rfl rfl (q_ldo (c := 0) (v := .int .i64 (gt z5 0)) (i := 0) rfl (hr14.intT_at (of_decide_eq_true hk15)).2 rfl Tryz.isAgg3 rfl rfl) ?_
    refine wa rfl rfl rfl (q_move (v := .slice A11 z5.length c12) rfl (by kernel_rfl)) ?_
    obtain ⟨hk16, h⟩ := chk_some h
    refine wa rfl rfl rfl (q_ixn (i := 1) Tryz.underlying23 Tryz.sizeOf3 rfl rfl rfl (of_decide_eq_true hk16) (hr14.some_ (of_decide_eq_true hk16))) ?_
    refine wa rfl rfl rfl (q_ldo (c := 0) (v := .int .i64 (gt z5 1)) (i := 0) rfl (hr14.intT_at (of_decide_eq_true hk16)).2 rfl Tryz.isAgg3 rfl rfl) ?_
    refine wa rfl rfl rfl (q_nil (A := some ⟨gt_, 0, none⟩) rfl rfl rfl) ?_
    refine wa rfl rfl rfl (q_fl 0 fld_105_0 rfl rfl rfl) ?_
    obtain ⟨hk17, h⟩ := chk_some h
    refine wa rfl rfl rfl (q_ixd (i := (gt z5 0).toNat) Tryz.underlying103 Tryz.sizeOf102 rfl rfl (inle_eq rfl (inb_le hk17)) (inb_lt hk17)) ?_
    obtain ⟨hk18, h⟩ := chk_some h
    refine wa rfl rfl rfl (q_ixd (i := (gt z5 1).toNat) Tryz.underlying102 Tryz.sizeOf101 rfl rfl (inle_eq rfl (inb_le hk18)) (inb_lt hk18)) ?_
    refine wa rfl rfl rfl (q_assign (v := .pointer (some ⟨gt_, 0 + ((gt z5 0).toNat) * 16 + ((gt z5 1).toNat) * 1, none⟩)) rfl (by kernel_rfl)) ?_
    refine WQ.nil ?_
    change WC _ _ _ _ _ _
    refine WC.cut (fun σ w => ∃ (o19 : OTree), ∃ (row20 : Rowb), m_tree_Tree_Set_j1 r_ z5 o19 = some r ∧ slots σ [(0, .pointer (some ⟨gt_, 0, none⟩)), (3, .pointer (some ⟨g1, 0, none⟩)), (5, .slice A11 z5.length c12), (6, .pointer (some ⟨gt_, 0 + ((gt z5 0).toNat) * 16 + ((gt z5 1).toNat) * 1, none⟩))] ∧ CC F Γ7 [row13, [(g1, .cells #[.string r_.key, .slice Ar_1 r_.vers.length cr_1] 51 (0, 0))], row20] w ∧ OTree.ob (tg0 105) Γ7 gt_ row20 o19 ∧ True) ?_ ?_
    · skip
      refine WC.rs ?_
      refine va rfl rfl rfl (q_move (v := .pointer (some ⟨gt_, 0 + ((gt z5 0).toNat) * 16 + ((gt z5 1).toNat) * 1, none⟩)) rfl (by kernel_rfl)) ?_
      refine va rfl rfl rfl (q_nil (A := some ⟨gt_, 0 + ((gt z5 0).toNat) * 16 + ((gt z5 1).toNat) * 1, none⟩) rfl rfl rfl) ?_
      have hq := (ht_.mono hl8)
      obtain ⟨cs_22, rL_22, sm_22, rS_22, hrow_22, hM_22, hl_22, hS_22, -⟩ := hq
      obtain ⟨rA_23, r_23, rB_23, hrl_23, hO_23, hcl_23⟩ := hM_22.at_ (i := 0 + ((gt z5 0).toNat) * 16 + ((gt z5 1).toNat) * 1) (by rw [hl_22]; exact (leaf_lt (inb_lt hk17) (inb_lt hk18)))
      have hrw_23 : rowt_ = ([[(gt_, .cells (cs_22 ++ [Value.map (some sm_22)]).toArray (tg0 105).1 (0, 0))], rA_23, r_23, rB_23, rS_22] : List Rowb).flatten := by rw [hrow_22, hrl_23]; simp only [List.flatten_cons, List.flatten_nil, List.append_nil, List.append_assoc]
      intro w hw; have hw := hw.unfold (i := 2) rfl hrw_23
      refine WR.here (C := CC F Γ7 [[(gt_, .cells (cs_22 ++ [Value.map (some sm_22)]).toArray (tg0 105).1 (0, 0))], rA_23, r_23, rB_23, rS_22, row13, [(g1, .cells #[.string r_.key, .slice Ar_1 r_.vers.length cr_1] 51 (0, 0))]]) ?_ hw
      clear hw
      refine va rfl rfl rfl (q_ldA (i := 0) (cs := cs_22) rfl (by rw [(hM_22.len.trans hl_22)]; exact (leaf_lt (inb_lt hk17) (inb_lt hk18))) rfl Tryz.isAgg101 rfl) ?_
      refine va rfl rfl rfl (q_omap_nil hO_23 Tryz.underlying101 rfl rfl rfl) ?_
      refine WR.nil ?_
      change WC _ _ _ _ _ _
      refine WC.cif h (by kernel_rfl) (fun hb24 h => ?_) (fun hb24 h => ?_)
      · skip
        refine WC.region ?_
        refine va rfl rfl rfl (q_move (v := .pointer (some ⟨gt_, 0 + ((gt z5 0).toNat) * 16 + ((gt z5 1).toNat) * 1, none⟩)) rfl (by kernel_rfl)) ?_
        refine e_makeMap (strK Tryz.underlying9) recT.ag rfl rfl rfl rfl ?_
        intro g25 row26 hm27
        refine va rfl rfl rfl (q_nil (A := some ⟨gt_, 0 + ((gt z5 0).toNat) * 16 + ((gt z5 1).toNat) * 1, none⟩) rfl rfl rfl) ?_
        refine e_stA (i := 1) (cs := cs_22) (j := 0 + ((gt z5 0).toNat) * 16 + ((gt z5 1).toNat) * 1) (v := .map (some g25)) rfl (by rw [(hM_22.len.trans hl_22)]; exact (leaf_lt (inb_lt hk17) (inb_lt hk18))) Tryz.sizeOf101 rfl rfl rfl rfl (by kernel_rfl) rfl rfl ?_
        refine WR.nil ?_
        intro w hw
        obtain ⟨row_28, hrow_28, hob_28⟩ : ∃ rw : Rowb, rw = ([[(gt_, .cells ((List.set cs_22 (0 + ((gt z5 0).toNat) * 16 + ((gt z5 1).toNat) * 1) (.map (some g25))) ++ [Value.map (some sm_22)]).toArray (tg0 105).1 (0, 0))], rA_23, row26, rB_23, rS_22] : List Rowb).flatten ∧ OTree.ob (tg0 105) Γ7 gt_ rw (⟨(List.set t_.leaves (0 + ((gt z5 0).toNat) * 16 + ((gt z5 1).toNat) * 1) (some ([] : List (ByteArray × Rec)))), t_.sums⟩ : OTree) := ⟨_, rfl, (List.set cs_22 (0 + ((gt z5 0).toNat) * 16 + ((gt z5 1).toNat) * 1) (.map (some g25))), (rA_23 ++ (row26 ++ rB_23)), sm_22, rS_22, (by simp only [List.flatten_cons, List.flatten_nil, List.append_nil, List.append_assoc]), (hcl_23 _ (.map (some g25)) row26 (some ([] : List (ByteArray × Rec))) (Gh.refl _) ⟨g25, rfl, hm27⟩), (List.length_set.trans hl_22), hS_22, trivial⟩
        have hw := hw.fold (is := [1, 1, 0, 1, 1]) rfl hrow_28
        exact ⟨(⟨(List.set t_.leaves (0 + ((gt z5 0).toNat) * 16 + ((gt z5 1).toNat) * 1) (some ([] : List (ByteArray × Rec)))), t_.sums⟩ : OTree), row_28, h, (sl_ (by kernel_rfl)), (hw.only (is := [2, 2, 0]) rfl), hob_28, trivial⟩
      · skip
        refine WC.skip ?_
        intro w hw
        have hw := hw.fold (is := [0, 0, 0, 0, 0]) rfl hrw_23
        exact ⟨t_, rowt_, h, (sl_ (by kernel_rfl)), (hw.only (is := [1, 1, 0]) rfl), (ht_.mono hl8), trivial⟩
    · skip
      rintro σ w ⟨o19, row20, h, hsl, hw, ho21, -⟩
      refine Wpt.slots hsl ?_
      refine WC.here (C := CC F Γ7 [row13, [(g1, .cells #[.string r_.key, .slice Ar_1 r_.vers.length cr_1] 51 (0, 0))], row20]) ?_ hw
      clear hw hsl
      refine WC.seq ?_
      have hq := ho21
      obtain ⟨cs_30, rL_30, sm_30, rS_30, hrow_30, hM_30, hl_30, hS_30, -⟩ := hq
      obtain ⟨rA_31, r_31, rB_31, hrl_31, hO_31, hcl_31⟩ := hM_30.at_ (i := 0 + ((gt z5 0).toNat) * 16 + ((gt z5 1).toNat) * 1) (by rw [hl_30]; exact (leaf_lt (inb_lt hk17) (inb_lt hk18)))
      have hrw_31 : row20 = ([[(gt_, .cells (cs_30 ++ [Value.map (some sm_30)]).toArray (tg0 105).1 (0, 0))], rA_31, r_31, rB_31, rS_30] : List Rowb).flatten := by rw [hrow_30, hrl_31]; simp only [List.flatten_cons, List.flatten_nil, List.append_nil, List.append_assoc]
      intro w hw; have hw := hw.unfold (i := 2) rfl hrw_31
      refine WC.here (C := CC F Γ7 [[(gt_, .cells (cs_30 ++ [Value.map (some sm_30)]).toArray (tg0 105).1 (0, 0))], rA_31, r_31, rB_31, rS_30, row13, [(g1, .cells #[.string r_.key, .slice Ar_1 r_.vers.length cr_1] 51 (0, 0))]]) ?_ hw
      clear hw
      obtain ⟨es32, hes33, h⟩ := bnd h
      obtain ⟨m34, hc35, hm36⟩ : ∃ m, cgt cs_30 (0 + ((gt z5 0).toNat) * 16 + ((gt z5 1).toNat) * 1) = Value.map (some m) ∧ MapO (strK Tryz.underlying9) recT.ag Γ7 r_31 m es32 := (by have h9 := hO_31; rw [hes33] at h9; exact h9)
      intro w hw; have h037 := hw.le
      refine WC.here (C := CC F Γ7 [[(gt_, .cells (cs_30 ++ [Value.map (some sm_30)]).toArray (tg0 105).1 (0, 0))], rA_31, r_31, rB_31, rS_30, row13, [(g1, .cells #[.string r_.key, .slice Ar_1 r_.vers.length cr_1] 51 (0, 0))]]) ?_ hw; clear hw
      refine WC.held (CC F Γ7 [[(gt_, .cells (cs_30 ++ [Value.map (some sm_30)]).toArray (tg0 105).1 (0, 0))], rA_31, rB_31, row13, [(g1, .cells #[.string r_.key, .slice Ar_1 r_.vers.length cr_1] 51 (0, 0))]]) (by kernel_rfl) (fun w hw => hw.drawn _) ?_
      change WH _ _ _ _ (CC F Γ7 [[(gt_, .cells (cs_30 ++ [Value.map (some sm_30)]).toArray (tg0 105).1 (0, 0))], rA_31, r_31, rB_31, rS_30, row13, [(g1, .cells #[.string r_.key, .slice Ar_1 r_.vers.length cr_1] 51 (0, 0))]]) _ 6 #[false, false, false, false, false, false] _
      refine ht (i := 0) rfl (by kernel_rfl) rfl rfl rfl (fun w hw => hw.back (Gh.refl _) h037 (.cons_cons _ (.cons_cons _ (.cons _ (.cons_cons _ (.cons _ (.cons_cons _ (.cons_cons _ .slnil)))))))) (q_move (v := .pointer (some ⟨gt_, 0 + ((gt z5 0).toNat) * 16 + ((gt z5 1).toNat) * 1, none⟩)) rfl (by kernel_rfl)) ?_
      refine ht (i := 1) rfl (by kernel_rfl) rfl rfl rfl (fun w hw => hw.back (Gh.refl _) h037 (.cons_cons _ (.cons_cons _ (.cons _ (.cons_cons _ (.cons _ (.cons_cons _ (.cons_cons _ .slnil)))))))) (q_nil (A := some ⟨gt_, 0 + ((gt z5 0).toNat) * 16 + ((gt z5 1).toNat) * 1, none⟩) rfl rfl rfl) ?_
      refine ht (i := 2) rfl (by kernel_rfl) rfl rfl rfl (fun w hw => hw.back (Gh.refl _) h037 (.cons_cons _ (.cons_cons _ (.cons _ (.cons_cons _ (.cons _ (.cons_cons _ (.cons_cons _ .slnil)))))))) (q_ldA (i := 0) (cs := cs_30) rfl (by rw [(hM_30.len.trans hl_30)]; exact (leaf_lt (inb_lt hk17) (inb_lt hk18))) rfl Tryz.isAgg101 rfl) ?_
      refine ht (i := 3) rfl (by kernel_rfl) rfl rfl rfl (fun w hw => hw.back (Gh.refl _) h037 (.cons_cons _ (.cons_cons _ (.cons _ (.cons_cons _ (.cons _ (.cons_cons _ (.cons_cons _ .slnil)))))))) (q_fl 0 fld_51_0 rfl rfl rfl) ?_
      refine ht (i := 4) rfl (by kernel_rfl) rfl rfl rfl (fun w hw => hw.back (Gh.refl _) h037 (.cons_cons _ (.cons_cons _ (.cons _ (.cons_cons _ (.cons _ (.cons_cons _ (.cons_cons _ .slnil)))))))) (q_ldl (i := 4) (v := .string r_.key) rfl rfl Tryz.isAgg9 rfl rfl) ?_
      refine WH.lone (i := 5) (by kernel_rfl) rfl ?_
      refine e_delete (i := 2) (x := r_.key) rfl hm36 rfl rfl rfl Tryz.underlying101 (Eq.trans (b := cgt cs_30 (0 + ((gt z5 0).toNat) * 16 + ((gt z5 1).toNat) * 1)) rfl hc35) rfl ?_
      intro row38 hm39
      refine WR.nil ?_
      refine WH.next (fun w hw => hw.back (Gh.refl _) h037 (.cons_cons _ (.cons_cons _ (.cons _ (.cons_cons _ (.cons _ (.cons_cons _ (.cons_cons _ .slnil)))))))) ?_
      refine WH.done (by kernel_rfl) ?_
      change WC _ _ _ _ _ _
      obtain ⟨row_40, hrow_40, hob_40⟩ : ∃ rw : Rowb, rw = ([[(gt_, .cells (cs_30 ++ [Value.map (some sm_30)]).toArray (tg0 105).1 (0, 0))], rA_31, row38, rB_31, rS_30] : List Rowb).flatten ∧ OTree.ob (tg0 105) Γ7 gt_ rw (⟨(List.set o19.leaves (0 + ((gt z5 0).toNat) * 16 + ((gt z5 1).toNat) * 1) (some (mdel r_.key es32))), o19.sums⟩ : OTree) := ⟨_, rfl, cs_30, (rA_31 ++ (row38 ++ rB_31)), sm_30, rS_30, (by simp only [List.flatten_cons, List.flatten_nil, List.append_nil, List.append_assoc]), (by have h9 := hcl_31 _ (.map (some m34)) row38 (some (mdel r_.key es32)) (Gh.refl _) ⟨m34, rfl, hm39⟩; rw [set_cgt hc35] at h9; exact h9), (List.length_set.trans hl_30), hS_30, trivial⟩
      intro w hw; have hw := hw.fold (is := [0, 0, 0, 0, 0]) rfl hrow_40
      refine WC.here (C := CC F Γ7 [row_40, row13, [(g1, .cells #[.string r_.key, .slice Ar_1 r_.vers.length cr_1] 51 (0, 0))]]) ?_ hw
      clear hw
      refine WC.cut (fun σ w => ∃ (o43 : OTree), ∃ (Γ41 : Gh), ∃ (row44 : Rowb), m_tree_Tree_Set_j2 z5 o43 = some r ∧ slots σ [(0, .pointer (some ⟨gt_, 0, none⟩)), (5, .slice A11 z5.length c12)] ∧ CC F Γ41 [row44, row13] w ∧ Gh.le Γ7 Γ41 ∧ OTree.ob (tg0 105) Γ41 gt_ row44 o43 ∧ True) ?_ ?_
      · skip
        refine WC.rs ?_
        refine va rfl rfl rfl (q_fl 1 fld_51_1 rfl rfl rfl) ?_
        refine va rfl rfl rfl (q_ldl (i := 2) (v := .slice Ar_1 r_.vers.length cr_1) rfl rfl Tryz.isAgg48 rfl rfl) ?_
        refine va rfl rfl rfl (q_len_slice rfl Tryz.underlying48 rfl) ?_
        refine va rfl rfl rfl (q_gtr rfl rfl rfl) ?_
        refine WR.nil ?_
        change WC _ _ _ _ _ _
        refine WC.cif h (by kernel_rfl) (fun hb46 h => ?_) (fun hb46 h => ?_)
        · skip
          have hq := hob_40
          obtain ⟨cs_47, rL_47, sm_47, rS_47, hrow_47, hM_47, hl_47, hS_47, -⟩ := hq
          obtain ⟨rA_48, r_48, rB_48, hrl_48, hO_48, hcl_48⟩ := hM_47.at_ (i := 0 + ((gt z5 0).toNat) * 16 + ((gt z5 1).toNat) * 1) (by rw [hl_47]; exact (leaf_lt (inb_lt hk17) (inb_lt hk18)))
          have hrw_48 : row_40 = ([[(gt_, .cells (cs_47 ++ [Value.map (some sm_47)]).toArray (tg0 105).1 (0, 0))], rA_48, r_48, rB_48, rS_47] : List Rowb).flatten := by rw [hrow_47, hrl_48]; simp only [List.flatten_cons, List.flatten_nil, List.append_nil, List.append_assoc]
          intro w hw; have hw := hw.unfold (i := 0) rfl hrw_48
          refine WC.here (C := CC F Γ7 [[(gt_, .cells (cs_47 ++ [Value.map (some sm_47)]).toArray (tg0 105).1 (0, 0))], rA_48, r_48, rB_48, rS_47, row13, [(g1, .cells #[.string r_.key, .slice Ar_1 r_.vers.length cr_1] 51 (0, 0))]]) ?_ hw
          clear hw
          obtain ⟨es49, hes50, h⟩ := bnd h
          obtain ⟨m51, hc52, hm53⟩ : ∃ m, cgt cs_47 (0 + ((gt z5 0).toNat) * 16 + ((gt z5 1).toNat) * 1) = Value.map (some m) ∧ MapO (strK Tryz.underlying9) recT.ag Γ7 r_48 m es49 := (by have h9 := hO_48; rw [hes50] at h9; exact h9)
          intro w hw; have h054 := hw.le
          refine WC.here (C := CC F Γ7 [[(gt_, .cells (cs_47 ++ [Value.map (some sm_47)]).toArray (tg0 105).1 (0, 0))], rA_48, r_48, rB_48, rS_47, row13, [(g1, .cells #[.string r_.key, .slice Ar_1 r_.vers.length cr_1] 51 (0, 0))]]) ?_ hw; clear hw
          refine WC.held (CC F Γ7 [[(gt_, .cells (cs_47 ++ [Value.map (some sm_47)]).toArray (tg0 105).1 (0, 0))], rA_48, rB_48, row13, [(g1, .cells #[.string r_.key, .slice Ar_1 r_.vers.length cr_1] 51 (0, 0))]]) (by kernel_rfl) (fun w hw => hw.drawn _) ?_
          change WH _ _ _ _ (CC F Γ7 [[(gt_, .cells (cs_47 ++ [Value.map (some sm_47)]).toArray (tg0 105).1 (0, 0))], rA_48, r_48, rB_48, rS_47, row13, [(g1, .cells #[.string r_.key, .slice Ar_1 r_.vers.length cr_1] 51 (0, 0))]]) _ 8 #[false, false, false, false, false, false, false, false] _
          refine ht (i := 0) rfl (by kernel_rfl) rfl rfl rfl (fun w hw => hw.back (Gh.refl _) h054 (.cons_cons _ (.cons_cons _ (.cons _ (.cons_cons _ (.cons _ (.cons_cons _ (.cons_cons _ .slnil)))))))) (q_move (v := .pointer (some ⟨gt_, 0 + ((gt z5 0).toNat) * 16 + ((gt z5 1).toNat) * 1, none⟩)) rfl (by kernel_rfl)) ?_
          refine ht (i := 1) rfl (by kernel_rfl) rfl rfl rfl (fun w hw => hw.back (Gh.refl _) h054 (.cons_cons _ (.cons_cons _ (.cons _ (.cons_cons _ (.cons _ (.cons_cons _ (.cons_cons _ .slnil)))))))) (q_nil (A := some ⟨gt_, 0 + ((gt z5 0).toNat) * 16 + ((gt z5 1).toNat) * 1, none⟩) rfl rfl rfl) ?_
          refine ht (i := 2) rfl (by kernel_rfl) rfl rfl rfl (fun w hw => hw.back (Gh.refl _) h054 (.cons_cons _ (.cons_cons _ (.cons _ (.cons_cons _ (.cons _ (.cons_cons _ (.cons_cons _ .slnil)))))))) (q_ldA (i := 0) (cs := cs_47) rfl (by rw [(hM_47.len.trans hl_47)]; exact (leaf_lt (inb_lt hk17) (inb_lt hk18))) rfl Tryz.isAgg101 rfl) ?_
          refine ht (i := 3) rfl (by kernel_rfl) rfl rfl rfl (fun w hw => hw.back (Gh.refl _) h054 (.cons_cons _ (.cons_cons _ (.cons _ (.cons_cons _ (.cons _ (.cons_cons _ (.cons_cons _ .slnil)))))))) (q_fl 0 fld_51_0 rfl rfl rfl) ?_
          refine ht (i := 4) rfl (by kernel_rfl) rfl rfl rfl (fun w hw => hw.back (Gh.refl _) h054 (.cons_cons _ (.cons_cons _ (.cons _ (.cons_cons _ (.cons _ (.cons_cons _ (.cons_cons _ .slnil)))))))) (q_ldl (i := 4) (v := .string r_.key) rfl rfl Tryz.isAgg9 rfl rfl) ?_
          refine ht (i := 5) rfl (by kernel_rfl) rfl rfl rfl (fun w hw => hw.back (Gh.refl _) h054 (.cons_cons _ (.cons_cons _ (.cons _ (.cons_cons _ (.cons _ (.cons_cons _ (.cons_cons _ .slnil)))))))) (q_ldla (i := 4) (vs := [.string r_.key, .slice Ar_1 r_.vers.length cr_1]) rfl rfl Tryz.isAgg51 Tryz.sizeOf51 rfl rfl) ?_
          refine WH.lone (i := 6) (by kernel_rfl) rfl ?_
          obtain ⟨z55, hz56, h⟩ := bnd h
          refine e_call (is := []) rfl rfl (call_run Tryz.call66 rfl rfl (by kernel_rfl)) rfl (fun w hp => t_tree_own r_ (Rec.fits_mono hr_ hl8) hp hz56) ?_
          rintro Γ57 U59 v60 hl58 ⟨A61, c62, rfl, rfl, hr63, _⟩
          change WR _ _ _ (CC F Γ57 [[(gt_, .cells (cs_47 ++ [Value.map (some sm_47)]).toArray (tg0 105).1 (0, 0))], rA_48, r_48, rB_48, rS_47, row13, [(g1, .cells #[.string r_.key, .slice Ar_1 r_.vers.length cr_1] 51 (0, 0))]]) _ _ (upd _ 46 (.agg #[.string z55.key, .slice A61 z55.vers.length c62]))
          refine WR.nil ?_
          refine WH.next (fun w hw => hw.back hl58 h054 (.cons_cons _ (.cons_cons _ (.cons _ (.cons_cons _ (.cons _ (.cons_cons _ (.cons_cons _ .slnil)))))))) ?_
          refine WH.lone (i := 7) (by kernel_rfl) rfl ?_
          refine e_mapUpdate (i := 2) (x := r_.key) (v := .agg #[.string z55.key, .slice A61 z55.vers.length c62]) (a := z55) rfl rfl rfl Tryz.underlying101 (Eq.trans (b := cgt cs_47 (0 + ((gt z5 0).toNat) * 16 + ((gt z5 1).toNat) * 1)) rfl hc52) rfl (by kernel_rfl) rfl (hm53.mono hl58) (by exact ⟨_, rfl, ⟨A61, c62, rfl, hr63⟩⟩) hr_.1 ?_
          intro row64 hm65
          refine WR.nil ?_
          refine WH.next (fun w hw => hw.back hl58 h054 (.cons_cons _ (.cons_cons _ (.cons _ (.cons_cons _ (.cons _ (.cons_cons _ (.cons_cons _ .slnil)))))))) ?_
          refine WH.done (by kernel_rfl) ?_
          intro w hw
          obtain ⟨row_66, hrow_66, hob_66⟩ : ∃ rw : Rowb, rw = ([[(gt_, .cells (cs_47 ++ [Value.map (some sm_47)]).toArray (tg0 105).1 (0, 0))], rA_48, row64, rB_48, rS_47] : List Rowb).flatten ∧ OTree.ob (tg0 105) Γ57 gt_ rw (⟨(List.set (⟨(List.set o19.leaves (0 + ((gt z5 0).toNat) * 16 + ((gt z5 1).toNat) * 1) (some (mdel r_.key es32))), o19.sums⟩ : OTree).leaves (0 + ((gt z5 0).toNat) * 16 + ((gt z5 1).toNat) * 1) (some (mput r_.key z55 es49))), (⟨(List.set o19.leaves (0 + ((gt z5 0).toNat) * 16 + ((gt z5 1).toNat) * 1) (some (mdel r_.key es32))), o19.sums⟩ : OTree).sums⟩ : OTree) := ⟨_, rfl, cs_47, (rA_48 ++ (row64 ++ rB_48)), sm_47, rS_47, (by simp only [List.flatten_cons, List.flatten_nil, List.append_nil, List.append_assoc]), (by have h9 := hcl_48 _ (.map (some m51)) row64 (some (mput r_.key z55 es49)) hl58 ⟨m51, rfl, hm65⟩; rw [set_cgt hc52] at h9; exact h9), (List.length_set.trans hl_47), (hS_47.mono hl58), trivial⟩
          have hw := hw.fold (is := [0, 0, 0, 0, 0]) rfl hrow_66
          exact ⟨(⟨(List.set (⟨(List.set o19.leaves (0 + ((gt z5 0).toNat) * 16 + ((gt z5 1).toNat) * 1) (some (mdel r_.key es32))), o19.sums⟩ : OTree).leaves (0 + ((gt z5 0).toNat) * 16 + ((gt z5 1).toNat) * 1) (some (mput r_.key z55 es49))), (⟨(List.set o19.leaves (0 + ((gt z5 0).toNat) * 16 + ((gt z5 1).toNat) * 1) (some (mdel r_.key es32))), o19.sums⟩ : OTree).sums⟩ : OTree), Γ57, row_66, h, (sl_ (by kernel_rfl)), (hw.only (is := [0, 0]) rfl), hl58, hob_66, trivial⟩
        · skip
          refine WC.skip ?_
          intro w hw
          exact ⟨(⟨(List.set o19.leaves (0 + ((gt z5 0).toNat) * 16 + ((gt z5 1).toNat) * 1) (some (mdel r_.key es32))), o19.sums⟩ : OTree), Γ7, row_40, h, (sl_ (by kernel_rfl)), (hw.only (is := [0, 0]) rfl), (Gh.refl _), hob_40, trivial⟩
      · skip
        rintro σ w ⟨o43, Γ41, row44, h, hsl, hw, hl42, ho45, -⟩
        refine Wpt.slots hsl ?_
        refine WC.here (C := CC F Γ41 [row44, row13]) ?_ hw
        clear hw hsl
        refine WC.rs ?_
        refine va rfl rfl rfl (q_move (v := .pointer (some ⟨gt_, 0, none⟩)) rfl (by kernel_rfl)) ?_
        refine va rfl rfl rfl (q_nil (A := some ⟨gt_, 0, none⟩) rfl rfl rfl) ?_
        refine va rfl rfl rfl (q_fl 256 fld_105_1 rfl rfl rfl) ?_
        have hq := ho45
        obtain ⟨cs_67, rL_67, sm_67, rS_67, hrow_67, hM_67, hl_67, hS_67, -⟩ := hq
        intro w hw; have hw := hw.unfold (i := 0) rfl hrow_67
        refine WR.here (C := CC F Γ41 [[(gt_, .cells (cs_67 ++ [Value.map (some sm_67)]).toArray (tg0 105).1 (0, 0))], rL_67, rS_67, row13]) ?_ hw
        clear hw
        refine va rfl rfl rfl (q_ldAe (i := 0) (cs := cs_67) rfl (hM_67.len.trans hl_67) rfl Tryz.isAgg100 rfl) ?_
        refine va rfl rfl rfl (q_build' (v := .agg #[.int .i64 0, .int .i64 0, .int .i64 0]) rfl (bargs3 rfl rfl rfl) (fun w => by kernel_rfl)) ?_
        refine e_sdelete (i := 2) (x := (0, 0, 0)) rfl hS_67 rfl rfl rfl Tryz.underlying100 rfl rfl ?_
        intro row68 hm69
        refine WR.nil ?_
        change WC _ _ _ _ _ _
        refine WC.seq ?_
        intro w hw; have h070 := hw.le
        refine WC.here (C := CC F Γ41 [[(gt_, .cells (cs_67 ++ [Value.map (some sm_67)]).toArray (tg0 105).1 (0, 0))], rL_67, row68, row13]) ?_ hw; clear hw
        refine WC.held (CC F Γ41 [[(gt_, .cells (cs_67 ++ [Value.map (some sm_67)]).toArray (tg0 105).1 (0, 0))], rL_67, row13]) (by kernel_rfl) (fun w hw => hw.drawn _) ?_
        change WH _ _ _ _ (CC F Γ41 [[(gt_, .cells (cs_67 ++ [Value.map (some sm_67)]).toArray (tg0 105).1 (0, 0))], rL_67, row68, row13]) _ 9 #[false, false, false, false, false, false, false, false, false] _
        refine ht (i := 0) rfl (by kernel_rfl) rfl rfl rfl (fun w hw => hw.back (Gh.refl _) h070 (.cons_cons _ (.cons_cons _ (.cons _ (.cons_cons _ .slnil))))) (q_move (v := .pointer (some ⟨gt_, 0, none⟩)) rfl (by kernel_rfl)) ?_
        refine ht (i := 1) rfl (by kernel_rfl) rfl rfl rfl (fun w hw => hw.back (Gh.refl _) h070 (.cons_cons _ (.cons_cons _ (.cons _ (.cons_cons _ .slnil))))) (q_nil (A := some ⟨gt_, 0, none⟩) rfl rfl rfl) ?_
        refine ht (i := 2) rfl (by kernel_rfl) rfl rfl rfl (fun w hw => hw.back (Gh.refl _) h070 (.cons_cons _ (.cons_cons _ (.cons _ (.cons_cons _ .slnil))))) (q_fl 256 fld_105_1 rfl rfl rfl) ?_
        refine ht (i := 3) rfl (by kernel_rfl) rfl rfl rfl (fun w hw => hw.back (Gh.refl _) h070 (.cons_cons _ (.cons_cons _ (.cons _ (.cons_cons _ .slnil))))) (q_ldAe (i := 0) (cs := cs_67) rfl (hM_67.len.trans hl_67) rfl Tryz.isAgg100 rfl) ?_
        refine ht (i := 4) rfl (by kernel_rfl) rfl rfl rfl (fun w hw => hw.back (Gh.refl _) h070 (.cons_cons _ (.cons_cons _ (.cons _ (.cons_cons _ .slnil))))) (q_move (v := .slice A11 z5.length c12) rfl (by kernel_rfl)) ?_
        refine ht (i := 5) rfl (by kernel_rfl) rfl rfl rfl (fun w hw => hw.back (Gh.refl _) h070 (.cons_cons _ (.cons_cons _ (.cons _ (.cons_cons _ .slnil))))) (q_ixn (i := 0) Tryz.underlying23 Tryz.sizeOf3 rfl rfl rfl (of_decide_eq_true hk15) ((hr14.mono hl42).some_ (of_decide_eq_true hk15))) ?_
        refine ht (i := 6) rfl (by kernel_rfl) rfl rfl rfl (fun w hw => hw.back (Gh.refl _) h070 (.cons_cons _ (.cons_cons _ (.cons _ (.cons_cons _ .slnil))))) (q_ldo (c := 0) (v := .int .i64 (gt z5 0)) (i := 2) rfl ((hr14.mono hl42).intT_at (of_decide_eq_true hk15)).2 rfl Tryz.isAgg3 rfl rfl) ?_
        refine ht (i := 7) rfl (by kernel_rfl) rfl rfl rfl (fun w hw => hw.back (Gh.refl _) h070 (.cons_cons _ (.cons_cons _ (.cons _ (.cons_cons _ .slnil))))) (q_build' (v := .agg #[.int .i64 1, .int .i64 (gt z5 0), .int .i64 0]) rfl (bargs3 rfl rfl rfl) (fun w => by kernel_rfl)) ?_
        refine WH.lone (i := 8) (by kernel_rfl) rfl ?_
        refine e_sdelete (i := 2) (x := (1, (gt z5 0), 0)) rfl hm69 rfl rfl rfl Tryz.underlying100 rfl rfl ?_
        intro row71 hm72
        refine WR.nil ?_
        refine WH.next (fun w hw => hw.back (Gh.refl _) h070 (.cons_cons _ (.cons_cons _ (.cons _ (.cons_cons _ .slnil))))) ?_
        refine WH.done (by kernel_rfl) ?_
        change WC _ _ _ _ _ _
        refine WC.seq ?_
        intro w hw; have h073 := hw.le
        refine WC.here (C := CC F Γ41 [[(gt_, .cells (cs_67 ++ [Value.map (some sm_67)]).toArray (tg0 105).1 (0, 0))], rL_67, row71, row13]) ?_ hw; clear hw
        refine WC.held (CC F Γ41 [[(gt_, .cells (cs_67 ++ [Value.map (some sm_67)]).toArray (tg0 105).1 (0, 0))], rL_67, row13]) (by kernel_rfl) (fun w hw => hw.drawn _) ?_
        change WH _ _ _ _ (CC F Γ41 [[(gt_, .cells (cs_67 ++ [Value.map (some sm_67)]).toArray (tg0 105).1 (0, 0))], rL_67, row71, row13]) _ 12 #[false, false, false, false, false, false, false, false, false, false, false, false] _
        refine ht (i := 0) rfl (by kernel_rfl) rfl rfl rfl (fun w hw => hw.back (Gh.refl _) h073 (.cons_cons _ (.cons_cons _ (.cons _ (.cons_cons _ .slnil))))) (q_move (v := .pointer (some ⟨gt_, 0, none⟩)) rfl (by kernel_rfl)) ?_
        refine ht (i := 1) rfl (by kernel_rfl) rfl rfl rfl (fun w hw => hw.back (Gh.refl _) h073 (.cons_cons _ (.cons_cons _ (.cons _ (.cons_cons _ .slnil))))) (q_nil (A := some ⟨gt_, 0, none⟩) rfl rfl rfl) ?_
        refine ht (i := 2) rfl (by kernel_rfl) rfl rfl rfl (fun w hw => hw.back (Gh.refl _) h073 (.cons_cons _ (.cons_cons _ (.cons _ (.cons_cons _ .slnil))))) (q_fl 256 fld_105_1 rfl rfl rfl) ?_
        refine ht (i := 3) rfl (by kernel_rfl) rfl rfl rfl (fun w hw => hw.back (Gh.refl _) h073 (.cons_cons _ (.cons_cons _ (.cons _ (.cons_cons _ .slnil))))) (q_ldAe (i := 0) (cs := cs_67) rfl (hM_67.len.trans hl_67) rfl Tryz.isAgg100 rfl) ?_
        refine ht (i := 4) rfl (by kernel_rfl) rfl rfl rfl (fun w hw => hw.back (Gh.refl _) h073 (.cons_cons _ (.cons_cons _ (.cons _ (.cons_cons _ .slnil))))) (q_move (v := .slice A11 z5.length c12) rfl (by kernel_rfl)) ?_
        refine ht (i := 5) rfl (by kernel_rfl) rfl rfl rfl (fun w hw => hw.back (Gh.refl _) h073 (.cons_cons _ (.cons_cons _ (.cons _ (.cons_cons _ .slnil))))) (q_ixn (i := 0) Tryz.underlying23 Tryz.sizeOf3 rfl rfl rfl (of_decide_eq_true hk15) ((hr14.mono hl42).some_ (of_decide_eq_true hk15))) ?_
        refine ht (i := 6) rfl (by kernel_rfl) rfl rfl rfl (fun w hw => hw.back (Gh.refl _) h073 (.cons_cons _ (.cons_cons _ (.cons _ (.cons_cons _ .slnil))))) (q_ldo (c := 0) (v := .int .i64 (gt z5 0)) (i := 2) rfl ((hr14.mono hl42).intT_at (of_decide_eq_true hk15)).2 rfl Tryz.isAgg3 rfl rfl) ?_
        refine ht (i := 7) rfl (by kernel_rfl) rfl rfl rfl (fun w hw => hw.back (Gh.refl _) h073 (.cons_cons _ (.cons_cons _ (.cons _ (.cons_cons _ .slnil))))) (q_move (v := .slice A11 z5.length c12) rfl (by kernel_rfl)) ?_
        refine ht (i := 8) rfl (by kernel_rfl) rfl rfl rfl (fun w hw => hw.back (Gh.refl _) h073 (.cons_cons _ (.cons_cons _ (.cons _ (.cons_cons _ .slnil))))) (q_ixn (i := 1) Tryz.underlying23 Tryz.sizeOf3 rfl rfl rfl (of_decide_eq_true hk16) ((hr14.mono hl42).some_ (of_decide_eq_true hk16))) ?_
        refine ht (i := 9) rfl (by kernel_rfl) rfl rfl rfl (fun w hw => hw.back (Gh.refl _) h073 (.cons_cons _ (.cons_cons _ (.cons _ (.cons_cons _ .slnil))))) (q_ldo (c := 0) (v := .int .i64 (gt z5 1)) (i := 2) rfl ((hr14.mono hl42).intT_at (of_decide_eq_true hk16)).2 rfl Tryz.isAgg3 rfl rfl) ?_
        refine ht (i := 10) rfl (by kernel_rfl) rfl rfl rfl (fun w hw => hw.back (Gh.refl _) h073 (.cons_cons _ (.cons_cons _ (.cons _ (.cons_cons _ .slnil))))) (q_build' (v := .agg #[.int .i64 2, .int .i64 (gt z5 0), .int .i64 (gt z5 1)]) rfl (bargs3 rfl rfl rfl) (fun w => by kernel_rfl)) ?_
        refine WH.lone (i := 11) (by kernel_rfl) rfl ?_
        refine e_sdelete (i := 2) (x := (2, (gt z5 0), (gt z5 1))) rfl hm72 rfl rfl rfl Tryz.underlying100 rfl rfl ?_
        intro row74 hm75
        refine WR.nil ?_
        refine WH.next (fun w hw => hw.back (Gh.refl _) h073 (.cons_cons _ (.cons_cons _ (.cons _ (.cons_cons _ .slnil))))) ?_
        refine WH.done (by kernel_rfl) ?_
        change WC _ _ _ _ _ _
        refine WC.rs ?_
        refine va rfl rfl rfl (q_assign (v := .int .i64 0) rfl (by kernel_rfl)) ?_
        refine WR.nil ?_
        change WC _ _ _ _ _ _
        refine WC.ret ?_
        intro w hw
        obtain ⟨row_76, hrow_76, hob_76⟩ : ∃ rw : Rowb, rw = ([[(gt_, .cells (cs_67 ++ [Value.map (some sm_67)]).toArray (tg0 105).1 (0, 0))], rL_67, row74] : List Rowb).flatten ∧ OTree.ob (tg0 105) Γ41 gt_ rw (⟨o43.leaves, (mdel (2, (gt z5 0), (gt z5 1)) (mdel (1, (gt z5 0), 0) (mdel (0, 0, 0) o43.sums)))⟩ : OTree) := ⟨_, rfl, cs_67, rL_67, sm_67, row74, (by simp only [List.flatten_cons, List.flatten_nil, List.append_nil, List.append_assoc]), hM_67, hl_67, hm75, trivial⟩
        have hw := hw.fold (is := [0, 0, 0]) rfl hrow_76
        obtain rfl := Option.some.inj h
        subst hF
        exact end_e (is := [0]) (by kernel_rfl) hw rfl ⟨row_76, rfl, rfl, hob_76, (show I64 0 by decide), trivial⟩
abbrev r_tree_New (r : (Option OTree) × Int) (U : List Rowb) (Γ : Gh) (v : Value) : Prop := ∃ (g0 : Nat), ∃ (row0 : Rowb), v = .tuple #[optp r.1 g0, .int .i64 r.2] ∧ U = [row0] ∧ optob (OTree.ob (tg0 105) Γ g0) row0 r.1 ∧ I64 r.2 ∧ True
set_option maxRecDepth 100000 in
set_option maxHeartbeats 400000 in
theorem t_tree_New {Γ : Gh} {w0 : World} {Alist : Option Addr} {clist : Nat} {list : List Rec} (hlist : Sl recT Γ Alist list) (hlistc : list.length ≤ clist) (hp : Pre [] Γ w0) {r : (Option OTree) × Int} (h : m_tree_New list = some r) : Calls Tryz.prog 37 #[.slice Alist list.length clist] w0 (Outc Γ [] w0 (r_tree_New r)) := by
  refine calls_of (N := 25) (rs := [2, 3]) (args := [.slice Alist list.length clist]) Tryz.func37 rfl Tryz.ntmps37 Tryz.results37 rfl ?_
  obtain ⟨F, hF⟩ : ∃ F : Fm, F = ⟨ids [], w0, Γ⟩ := ⟨_, rfl⟩
  refine WC.here (C := CC F Γ []) ?_ (hF ▸ hp.start)
  refine WC.rs ?_
  refine va rfl rfl rfl (q_assign (v := .pointer none) rfl (by kernel_rfl)) ?_
  refine va rfl rfl rfl (q_assign (v := .int .i64 0) rfl (by kernel_rfl)) ?_
  refine WR.nil ?_
  change WC _ _ _ _ _ _
  refine WC.rs ?_
  refine e_makeMap kk107 refV rfl rfl rfl rfl ?_
  intro g1 row2 hm3
  refine va rfl rfl rfl (q_build' (v := .agg (List.replicate 256 (Value.map none) ++ [Value.map (some g1)]).toArray) rfl (bargs1 rfl) (fun w => by kernel_rfl)) ?_
  refine e_box (v := .agg (List.replicate 256 (Value.map none) ++ [Value.map (some g1)]).toArray) rfl rfl rfl rfl (by kernel_rfl) ?_
  intro g4
  obtain ⟨row_5, hrow_5, hob_5⟩ : ∃ rw : Rowb, rw = ([[(g4, .cells (List.replicate 256 (Value.map none) ++ [Value.map (some g1)]).toArray (tg0 105).1 (0, 0))], row2] : List Rowb).flatten ∧ OTree.ob (tg0 105) Γ g4 rw (⟨List.replicate 256 none, []⟩ : OTree) := ⟨_, rfl, List.replicate 256 (Value.map none), [], g1, row2, (by simp only [List.flatten_cons, List.flatten_nil, List.append_nil, List.nil_append]), MapsA.nils (strK Tryz.underlying9) recT.ag _ 256, List.length_replicate, Sums.new hm3, trivial⟩
  refine WR.sub (fun w hw => Cur.fold (is := [0, 0]) (row := row_5) hw rfl hrow_5) ?_
  change WR _ _ _ (CC F Γ [row_5]) _ _ (upd _ 10 (.pointer (some ⟨g4, 0, none⟩)))
  refine va rfl rfl rfl (q_assign (v := .pointer (some ⟨g4, 0, none⟩)) rfl (by kernel_rfl)) ?_
  refine WR.nil ?_
  change WC _ _ _ _ _ _
  refine WC.seq ?_
  refine WC.rs ?_
  refine va rfl rfl rfl (q_move (v := .slice Alist list.length clist) rfl (by kernel_rfl)) ?_
  refine va rfl rfl rfl (q_len_slice rfl Tryz.underlying22 rfl) ?_
  refine va rfl rfl rfl (q_move (v := .int .i64 0) rfl (by kernel_rfl)) ?_
  refine WR.nil ?_
  change WC _ _ _ _ _ _
  refine WC.block ?_
  refine WC.forI h (fun (i12 : Nat) (o8 : OTree) σ w => ∃ (Γ6 : Gh), ∃ (row9 : Rowb), slots σ [(4, .pointer (some ⟨g4, 0, none⟩)), (11, .slice Alist list.length clist), (12, .int .i64 ((list.length : Nat) : Int)), (13, .int .i64 ((i12 : Nat) : Int))] ∧ CC F Γ6 [row9] w ∧ Gh.le Γ Γ6 ∧ OTree.ob (tg0 105) Γ6 g4 row9 o8 ∧ True) ?_ ?_
  · skip
    intro w hw
    exact ⟨Γ, row_5, (sl_ (by kernel_rfl)), hw, (Gh.refl _), hob_5, trivial⟩
  rintro f11 i12 o8 σ w hi13 hlt14 hge15 ⟨Γ6, row9, hsl, hw, hl7, ho10, -⟩
  refine Wpt.slots hsl ?_
  refine WC.here (C := CC F Γ6 [row9]) ?_ hw
  clear hw hsl
  refine WC.rs ?_
  refine va rfl rfl rfl (q_lss rfl rfl rfl) ?_
  refine WR.nil ?_
  change WC _ _ _ _ _ _
  refine WC.seq ?_
  refine WC.cond (b := (decide (((i12 : Nat) : Int) < ((list.length : Nat) : Int)))) (by kernel_rfl) (fun hb16 => ?_) (fun hb16 => ?_)
  · skip
    have hl17 := ilt hb16
    have h := hlt14 hl17
    refine WC.skip ?_
    change WC _ _ _ _ _ _
    refine WC.seq ?_
    refine WC.block ?_
    refine WC.rs ?_
    refine va rfl rfl rfl (q_ixn (i := i12) Tryz.underlying22 Tryz.sizeOf51 rfl rfl rfl hl17 ((hlist.mono hl7).some_ hl17)) ?_
    obtain ⟨A18, c19, hx20⟩ := (hlist.mono hl7).recT_at i12
    refine va rfl rfl rfl (q_lda (c := 0) (vs := [.string (gt list i12).key, .slice A18 ((gt list i12).vers).length c19]) (hx20 hl17).2 rfl Tryz.isAgg51 Tryz.sizeOf51 rfl rfl rfl) ?_
    refine e_alloc Tryz.zeroValue51 rfl rfl rfl rfl ?_
    intro g21
    refine e_st (i := 0) (v := .agg #[.string (gt list i12).key, .slice A18 ((gt list i12).vers).length c19]) (new := #[.string (gt list i12).key, .slice A18 ((gt list i12).vers).length c19]) rfl Tryz.sizeOf51 rfl rfl rfl rfl (by kernel_rfl) rfl rfl rfl rfl ?_
    refine WR.nil ?_
    change WC _ _ _ _ _ _
    refine WC.rs ?_
    refine va rfl rfl rfl (q_move (v := .pointer (some ⟨g4, 0, none⟩)) rfl (by kernel_rfl)) ?_
    refine va rfl rfl rfl (q_ldla (i := 0) (vs := [.string (gt list i12).key, .slice A18 ((gt list i12).vers).length c19]) rfl rfl Tryz.isAgg51 Tryz.sizeOf51 rfl rfl) ?_
    obtain ⟨z22, hz23, h⟩ := bnd h
    refine e_call (is := [1]) rfl rfl (call_run Tryz.call61 rfl rfl (by kernel_rfl)) rfl (fun w hp => t_tree_Tree_Set ho10 (gt list i12) (hx20 hl17).1 hp hz23) ?_
    rintro Γ24 U26 v27 hl25 ⟨row28, rfl, rfl, hr29, hr30, _⟩
    change WR _ _ _ (CC F Γ24 [row28, [(g21, .cells #[.string (gt list i12).key, .slice A18 ((gt list i12).vers).length c19] 51 (0, 0))]]) _ _ (upd _ 19 (.int .i64 z22.2))
    refine va rfl rfl rfl (q_assign (v := .int .i64 z22.2) rfl (by kernel_rfl)) ?_
    refine WR.nil ?_
    change WC _ _ _ _ _ _
    refine WC.rs ?_
    refine va rfl rfl rfl (q_move (v := .int .i64 z22.2) rfl (by kernel_rfl)) ?_
    refine va rfl rfl rfl (q_neq rfl rfl rfl) ?_
    refine WR.nil ?_
    change WC _ _ _ _ _ _
    refine WC.cif h (by kernel_rfl) (fun hb31 h => ?_) (fun hb31 h => ?_)
    · skip
      refine WC.rs ?_
      refine va rfl rfl rfl (q_move (v := .int .i64 z22.2) rfl (by kernel_rfl)) ?_
      refine va rfl rfl rfl (q_assign (v := .pointer none) rfl (by kernel_rfl)) ?_
      refine va rfl rfl rfl (q_assign (v := .int .i64 z22.2) rfl (by kernel_rfl)) ?_
      refine WR.nil ?_
      change WC _ _ _ _ _ _
      refine WC.ret ?_
      intro w hw
      have hw := hw.pad
      obtain rfl := Option.some.inj h
      subst hF
      exact end_e (is := [0]) (by kernel_rfl) hw rfl ⟨0, [], rfl, rfl, rfl, hr30, trivial⟩
    · skip
      refine WC.skip ?_
      change WC _ _ _ _ _ _
      refine WC.region ?_
      refine va rfl rfl rfl (q_add_r (r := ((i12 + 1 : Nat) : Int)) rfl rfl rfl (ctr_len hl17 (hlist.mono hl7).le)) ?_
      refine va rfl rfl rfl (q_move (v := .int .i64 ((i12 + 1 : Nat) : Int)) rfl (by kernel_rfl)) ?_
      refine WR.nil ?_
      intro w hw
      exact ⟨hl17, z22.1, h, Γ24, row28, (sl_ (by kernel_rfl)), (hw.only (is := [0]) rfl), (hl7.trans hl25), hr29, trivial⟩
  · skip
    have h := hge15 (ige hb16)
    refine WC.exit ?_
    change WC _ _ _ _ _ _
    refine WC.rs ?_
    refine va rfl rfl rfl (q_move (v := .pointer (some ⟨g4, 0, none⟩)) rfl (by kernel_rfl)) ?_
    refine va rfl rfl rfl (q_assign (v := .pointer (some ⟨g4, 0, none⟩)) rfl (by kernel_rfl)) ?_
    refine va rfl rfl rfl (q_assign (v := .int .i64 0) rfl (by kernel_rfl)) ?_
    refine WR.nil ?_
    change WC _ _ _ _ _ _
    refine WC.ret ?_
    intro w hw
    obtain rfl := Option.some.inj h
    subst hF
    exact end_e (is := [0]) (by kernel_rfl) hw rfl ⟨g4, row9, rfl, rfl, ho10, (show I64 0 by decide), trivial⟩
set_option maxRecDepth 100000 in
set_option maxHeartbeats 400000 in
theorem t_tree_at {Γ : Gh} {w0 : World} {Apath : Option Addr} {cpath : Nat} {path : List Int} (hpath : Sl intT Γ Apath path) (hpathc : path.length ≤ cpath) (hs : Sat Γ w0) {r : (Int × Int × Int) × Bool} (h : m_tree_at path = some r) : Calls Tryz.prog 62 #[.slice Apath path.length cpath] w0 (fun e w' => e = .returned (.tuple #[.agg #[.int .i64 r.1.1, .int .i64 r.1.2.1, .int .i64 r.1.2.2], .bool r.2]) ∧ Fr no w0 w') := by
  refine calls_of_r (N := 34) (rs := [.cell 2 107, .tmp 3]) (args := [.slice Apath path.length cpath]) Tryz.func62 rfl Tryz.ntmps62 Tryz.results62 rfl ?_
  obtain ⟨F, hF⟩ : ∃ F : Fm, F = ⟨no, w0, Γ⟩ := ⟨_, rfl⟩
  refine WC.here (C := CC F Γ []) ?_ (hF ▸ Cur.start0 hs)
  refine WC.rs ?_
  refine e_alloc Tryz.zeroValue107 rfl rfl rfl rfl ?_
  intro g1
  refine va rfl rfl rfl (q_assign (v := .bool false) rfl (by kernel_rfl)) ?_
  refine WR.nil ?_
  change WC _ _ _ _ _ _
  refine WC.rs ?_
  refine va rfl rfl rfl (q_move (v := .slice Apath path.length cpath) rfl (by kernel_rfl)) ?_
  refine va rfl rfl rfl (q_len_slice rfl Tryz.underlying23 rfl) ?_
  refine va rfl rfl rfl (q_build' (v := .agg #[.int .i64 ((path.length : Nat) : Int), .int .i64 0, .int .i64 0]) rfl (bargs1 rfl) (fun w => by kernel_rfl)) ?_
  refine e_alloc Tryz.zeroValue107 rfl rfl rfl rfl ?_
  intro g2
  refine e_st (i := 0) (v := .agg #[.int .i64 ((path.length : Nat) : Int), .int .i64 0, .int .i64 0]) (new := #[.int .i64 ((path.length : Nat) : Int), .int .i64 0, .int .i64 0]) rfl Tryz.sizeOf107 rfl rfl rfl rfl (by kernel_rfl) rfl rfl rfl rfl ?_
  refine WR.nil ?_
  change WC _ _ _ _ _ _
  refine WC.seq ?_
  refine WC.rs ?_
  refine va rfl rfl rfl (q_move (v := .slice Apath path.length cpath) rfl (by kernel_rfl)) ?_
  refine va rfl rfl rfl (q_len_slice rfl Tryz.underlying23 rfl) ?_
  refine va rfl rfl rfl (q_move (v := .int .i64 0) rfl (by kernel_rfl)) ?_
  refine WR.nil ?_
  change WC _ _ _ _ _ _
  refine WC.block ?_
  have ho3 : Own intT Γ 107 [(g2, .cells #[.int .i64 ((path.length : Nat) : Int), .int .i64 0, .int .i64 0] 107 (0, 0))] (some ⟨g2, 0, none⟩) 3 [((path.length : Nat) : Int), 0, 0] := Own.of_blockL (T := intT) (ys := [((path.length : Nat) : Int), 0, 0]) [[.int .i64 ((path.length : Nat) : Int)], [.int .i64 0], [.int .i64 0]] rfl (show 3 ≤ lim by decide) (show Ty.rd intT Γ [.int .i64 ((path.length : Nat) : Int)] ((path.length : Nat) : Int) ∧ Ty.rd intT Γ [.int .i64 0] 0 ∧ Ty.rd intT Γ [.int .i64 0] 0 ∧ True from ⟨⟨rfl, (len_r hpath.le)⟩, ⟨rfl, (show I64 0 by decide)⟩, ⟨rfl, (show I64 0 by decide)⟩, trivial⟩)
  refine WC.forI h (fun (i9 : Nat) (x4 : List Int) σ w => ∃ (row5 : Rowb), slots σ [(2, .pointer (some ⟨g1, 0, none⟩)), (4, .pointer (some ⟨g2, 0, none⟩)), (10, .slice Apath path.length cpath), (11, .int .i64 ((path.length : Nat) : Int)), (12, .int .i64 ((i9 : Nat) : Int))] ∧ CC F Γ [row5, [(g1, .cells #[.int .i64 0, .int .i64 0, .int .i64 0] 107 (0, 0))]] w ∧ x4.length = 3 ∧ Own intT Γ 107 row5 (some ⟨g2, 0, none⟩) 3 x4 ∧ True) ?_ ?_
  · skip
    intro w hw
    exact ⟨[(g2, .cells #[.int .i64 ((path.length : Nat) : Int), .int .i64 0, .int .i64 0] 107 (0, 0))], (sl_ (by kernel_rfl)), hw, rfl, ho3, trivial⟩
  rintro f8 i9 x4 σ w hi10 hlt11 hge12 ⟨row5, hsl, hw, hn7, ho6, -⟩
  refine Wpt.slots hsl ?_
  refine WC.here (C := CC F Γ [row5, [(g1, .cells #[.int .i64 0, .int .i64 0, .int .i64 0] 107 (0, 0))]]) ?_ hw
  clear hw hsl
  refine WC.rs ?_
  refine va rfl rfl rfl (q_lss rfl rfl rfl) ?_
  refine WR.nil ?_
  change WC _ _ _ _ _ _
  refine WC.seq ?_
  refine WC.cond (b := (decide (((i9 : Nat) : Int) < ((path.length : Nat) : Int)))) (by kernel_rfl) (fun hb13 => ?_) (fun hb13 => ?_)
  · skip
    have hl14 := ilt hb13
    have h := hlt11 hl14
    refine WC.skip ?_
    change WC _ _ _ _ _ _
    refine WC.seq ?_
    refine WC.block ?_
    refine WC.rs ?_
    refine va rfl rfl rfl (q_move (v := .int .i64 ((i9 : Nat) : Int)) rfl (by kernel_rfl)) ?_
    refine va rfl rfl rfl (q_ixn (i := i9) Tryz.underlying23 Tryz.sizeOf3 rfl rfl rfl hl14 (hpath.some_ hl14)) ?_
    refine va rfl rfl rfl (q_ld (c := 0) (v := .int .i64 (gt path i9)) (hpath.intT_at hl14).2 rfl Tryz.isAgg3 rfl rfl) ?_
    refine va rfl rfl rfl (q_assign (v := .int .i64 ((i9 : Nat) : Int)) rfl (by kernel_rfl)) ?_
    refine va rfl rfl rfl (q_assign (v := .int .i64 (gt path i9)) rfl (by kernel_rfl)) ?_
    refine WR.nil ?_
    change WC _ _ _ _ _ _
    refine WC.seq ?_
    refine WC.rs ?_
    refine va rfl rfl rfl (q_move (v := .int .i64 ((i9 : Nat) : Int)) rfl (by kernel_rfl)) ?_
    refine va rfl rfl rfl (q_gtr rfl rfl rfl) ?_
    refine va rfl rfl rfl (q_move (v := .bool (decide (1 < ((i9 : Nat) : Int)))) rfl (by kernel_rfl)) ?_
    refine vg0 rfl rfl rfl rfl rfl (fun hg15 => QV.qo (q_move (v := .int .i64 (gt path i9)) rfl (by kernel_rfl))) ?_
    refine vg0 rfl rfl rfl rfl rfl (fun hg16 => QV.qo (q_lss rfl (gu hg16 rfl) rfl)) ?_
    refine va rfl rfl rfl (q_pick rfl rfl (pk_or' (g := (decide (1 < ((i9 : Nat) : Int)))) (y := (decide ((gt path i9) < 0))))) ?_
    refine va rfl rfl rfl (q_move (v := .bool ((decide (1 < ((i9 : Nat) : Int))) || (decide ((gt path i9) < 0)))) rfl (by kernel_rfl)) ?_
    refine vg0 rfl rfl rfl rfl rfl (fun hg17 => QV.qo (q_move (v := .int .i64 (gt path i9)) rfl (by kernel_rfl))) ?_
    refine vg0 rfl rfl rfl rfl rfl (fun hg18 => QV.qo (q_gtr rfl (gu hg18 rfl) rfl)) ?_
    refine va rfl rfl rfl (q_pick rfl rfl (pk_or' (g := ((decide (1 < ((i9 : Nat) : Int))) || (decide ((gt path i9) < 0)))) (y := (decide (15 < (gt path i9)))))) ?_
    refine WR.nil ?_
    change WC _ _ _ _ _ _
    refine WC.cif h (by kernel_rfl) (fun hb19 h => ?_) (fun hb19 h => ?_)
    · skip
      refine WC.rs ?_
      have hq20 := gts3 (xs := x4) (hn7)
      refine va rfl rfl rfl (q_ldoa (i := 0) (c := 0) (vs := [.int .i64 (gt x4 0), .int .i64 (gt x4 1), .int .i64 (gt x4 2)]) rfl (Own.all_ (k := .i64) intT_cs rfl ho6) rfl Tryz.isAgg107 Tryz.sizeOf107 rfl (by rw [hq20]; rfl)) ?_
      refine e_st (i := 1) (v := .agg #[.int .i64 (gt x4 0), .int .i64 (gt x4 1), .int .i64 (gt x4 2)]) (new := #[.int .i64 (gt x4 0), .int .i64 (gt x4 1), .int .i64 (gt x4 2)]) rfl Tryz.sizeOf107 rfl rfl rfl rfl (by kernel_rfl) rfl rfl rfl rfl ?_
      refine va rfl rfl rfl (q_assign (v := .bool false) rfl (by kernel_rfl)) ?_
      refine WR.nil ?_
      change WC _ _ _ _ _ _
      refine WC.ret ?_
      intro w hw
      obtain rfl := Option.some.inj h
      subst hF
      exact ⟨[.agg #[.int .i64 (gt x4 0), .int .i64 (gt x4 1), .int .i64 (gt x4 2)], .bool false], (rr_agg (i := 1) (us := [.int .i64 (gt x4 0), .int .i64 (gt x4 1), .int .i64 (gt x4 2)]) hw rfl Tryz.isAgg107 Tryz.sizeOf107 (by kernel_rfl) rfl (rr_tmp (by kernel_rfl) rr_nil)), by kernel_rfl, hw.fr⟩
    · skip
      refine WC.skip ?_
      change WC _ _ _ _ _ _
      refine WC.region ?_
      refine va rfl rfl rfl (q_move (v := .int .i64 ((i9 : Nat) : Int)) rfl (by kernel_rfl)) ?_
      refine va rfl rfl rfl (q_add_r (r := ((i9 + 1 : Nat) : Int)) rfl rfl rfl (ctr_len hl14 hpath.le)) ?_
      refine va rfl rfl rfl (q_move (v := .int .i64 (gt path i9)) rfl (by kernel_rfl)) ?_
      obtain ⟨hk21, h⟩ := chk_some h
      refine va rfl rfl rfl (q_ixan (i := i9 + 1) Tryz.underlying107 Tryz.sizeOf3 rfl rfl rfl (of_decide_eq_true hk21)) ?_
      refine e_store_own (T := intT) (q := i9 + 1) (v := .int .i64 (gt path i9)) (y := (gt path i9)) rfl rfl rfl rfl (by kernel_rfl) Tryz.sizeOf3 (by exact ⟨rfl, (hpath.intT_at hl14).1⟩) (i := 0) rfl ho6 (ltq (of_decide_eq_true hk21) hn7.symm) ?_
      intro row22 ho23
      refine WR.nil ?_
      change WC _ _ _ _ _ _
      refine WC.region ?_
      refine va rfl rfl rfl (q_add_r (r := ((i9 + 1 : Nat) : Int)) rfl rfl rfl (ctr_len hl14 hpath.le)) ?_
      refine va rfl rfl rfl (q_move (v := .int .i64 ((i9 + 1 : Nat) : Int)) rfl (by kernel_rfl)) ?_
      refine WR.nil ?_
      intro w hw
      exact ⟨hl14, (List.set x4 (i9 + 1) (gt path i9)), h, row22, (sl_ (by kernel_rfl)), hw, (List.length_set.trans hn7), ho23, trivial⟩
  · skip
    have h := hge12 (ige hb13)
    refine WC.exit ?_
    change WC _ _ _ _ _ _
    refine WC.rs ?_
    have hq24 := gts3 (xs := x4) (hn7)
    refine va rfl rfl rfl (q_ldoa (i := 0) (c := 0) (vs := [.int .i64 (gt x4 0), .int .i64 (gt x4 1), .int .i64 (gt x4 2)]) rfl (Own.all_ (k := .i64) intT_cs rfl ho6) rfl Tryz.isAgg107 Tryz.sizeOf107 rfl (by rw [hq24]; rfl)) ?_
    refine e_st (i := 1) (v := .agg #[.int .i64 (gt x4 0), .int .i64 (gt x4 1), .int .i64 (gt x4 2)]) (new := #[.int .i64 (gt x4 0), .int .i64 (gt x4 1), .int .i64 (gt x4 2)]) rfl Tryz.sizeOf107 rfl rfl rfl rfl (by kernel_rfl) rfl rfl rfl rfl ?_
    refine va rfl rfl rfl (q_assign (v := .bool true) rfl (by kernel_rfl)) ?_
    refine WR.nil ?_
    change WC _ _ _ _ _ _
    refine WC.ret ?_
    intro w hw
    obtain rfl := Option.some.inj h
    subst hF
    exact ⟨[.agg #[.int .i64 (gt x4 0), .int .i64 (gt x4 1), .int .i64 (gt x4 2)], .bool true], (rr_agg (i := 1) (us := [.int .i64 (gt x4 0), .int .i64 (gt x4 1), .int .i64 (gt x4 2)]) hw rfl Tryz.isAgg107 Tryz.sizeOf107 (by kernel_rfl) rfl (rr_tmp (by kernel_rfl) rr_nil)), by kernel_rfl, hw.fr⟩
abbrev r_maps_Copy_map_string_api_Rec_map_string_api_Rec_string_api_Rec_nil (mdst : Nat) (rowdst : Rowb) (r : Unit) (U : List Rowb) (Γ : Gh) (v : Value) : Prop := v = .tuple #[] ∧ U = [rowdst] ∧ True
set_option maxRecDepth 100000 in
set_option maxHeartbeats 400000 in
theorem t_maps_Copy_map_string_api_Rec_map_string_api_Rec_string_api_Rec_nil {Γ : Gh} {w0 : World} {mdst : Nat} {rowdst : Rowb} {dst : List (ByteArray × Rec)} (hdst : MapO (strK Tryz.underlying9) recT.ag Γ rowdst mdst dst) (hp : Pre [rowdst] Γ w0) {r : Unit} (h : m_maps_Copy_map_string_api_Rec_map_string_api_Rec_string_api_Rec_nil dst = some r) : Calls Tryz.prog 64 #[.map (some mdst), .map none] w0 (Outc Γ [rowdst] w0 (r_maps_Copy_map_string_api_Rec_map_string_api_Rec_string_api_Rec_nil mdst rowdst r)) := by
  refine calls_of (N := 16) (rs := []) (args := [.map (some mdst), .map none]) Tryz.func64 rfl Tryz.ntmps64 Tryz.results64 rfl ?_
  obtain ⟨F, hF⟩ : ∃ F : Fm, F = ⟨ids [rowdst], w0, Γ⟩ := ⟨_, rfl⟩
  refine WC.here (C := CC F Γ [rowdst]) ?_ (hF ▸ hp.start)
  refine WC.rs ?_
  refine va rfl rfl rfl (q_move (v := .map none) rfl (by kernel_rfl)) ?_
  refine e_rangen rfl rfl rfl Tryz.underlying101 rfl ?_
  intro g1
  change WR _ _ _ (CC F Γ [[(g1, .mapIter none 0 #[] 0)], rowdst]) _ _ (upd _ 7 (.pointer (some ⟨g1, 0, none⟩)))
  refine WR.nil ?_
  change WC _ _ _ _ _ _
  refine WC.block ?_
  refine WC.loopN h (fun (s : Unit) σ w => match s with | () => slots σ [(0, .map (some mdst)), (7, .pointer (some ⟨g1, 0, none⟩))] ∧ CC F Γ [[(g1, .mapIter none 0 #[] 0)], rowdst] w ∧ True) ?_ ?_
  · skip
    intro w hw
    exact ⟨(sl_ (by kernel_rfl)), hw, trivial⟩
  rintro f2 ⟨⟩ σ w h ⟨hsl, hw, -⟩
  refine Wpt.slots hsl ?_
  refine WC.here (C := CC F Γ [[(g1, .mapIter none 0 #[] 0)], rowdst]) ?_ hw
  clear hw hsl
  refine WC.rs ?_
  refine e_nextn (i := 0) rfl rfl rfl rfl rfl ?_
  change WR _ _ _ (CC F Γ [[(g1, .mapIter none 0 #[] 0)], rowdst]) _ _ (upd _ 8 (.tuple #[.bool false]))
  refine va rfl rfl rfl (q_extract (v := .bool false) rfl rfl rfl) ?_
  refine WR.nil ?_
  change WC _ _ _ _ _ _
  refine WC.seq ?_
  refine WC.cfk (b := false) (by kernel_rfl) rfl ?_
  refine WC.exit ?_
  intro w hw
  obtain rfl := Option.some.inj h
  subst hF
  exact end_e (is := [1]) (by kernel_rfl) hw rfl ⟨rfl, rfl, trivial⟩
abbrev r_maps_Copy_map_string_api_Rec_map_string_api_Rec_string_api_Rec (mdst : Nat) (msrc : Nat) (rowsrc : Rowb) (r : List (ByteArray × Rec)) (U : List Rowb) (Γ : Gh) (v : Value) : Prop := ∃ (rowdst' : Rowb), v = .tuple #[] ∧ U = [rowdst', rowsrc] ∧ MapO (strK Tryz.underlying9) recT.ag Γ rowdst' mdst r ∧ True
set_option maxRecDepth 100000 in
set_option maxHeartbeats 400000 in
theorem t_maps_Copy_map_string_api_Rec_map_string_api_Rec_string_api_Rec {Γ : Gh} {w0 : World} {mdst : Nat} {rowdst : Rowb} {dst : List (ByteArray × Rec)} (hdst : MapO (strK Tryz.underlying9) recT.ag Γ rowdst mdst dst) {msrc : Nat} {rowsrc : Rowb} {src : List (ByteArray × Rec)} (hsrc : MapO (strK Tryz.underlying9) recT.ag Γ rowsrc msrc src) (hp : Pre [rowdst, rowsrc] Γ w0) {r : List (ByteArray × Rec)} (h : m_maps_Copy_map_string_api_Rec_map_string_api_Rec_string_api_Rec dst src = some r) : Calls Tryz.prog 64 #[.map (some mdst), .map (some msrc)] w0 (Outc Γ [rowdst, rowsrc] w0 (r_maps_Copy_map_string_api_Rec_map_string_api_Rec_string_api_Rec mdst msrc rowsrc r)) := by
  refine calls_of (N := 16) (rs := []) (args := [.map (some mdst), .map (some msrc)]) Tryz.func64 rfl Tryz.ntmps64 Tryz.results64 rfl ?_
  obtain ⟨F, hF⟩ : ∃ F : Fm, F = ⟨ids [rowdst, rowsrc], w0, Γ⟩ := ⟨_, rfl⟩
  refine WC.here (C := CC F Γ [rowdst, rowsrc]) ?_ (hF ▸ hp.start)
  refine WC.rs ?_
  refine va rfl rfl rfl (q_move (v := .map (some msrc)) rfl (by kernel_rfl)) ?_
  refine e_range hsrc (fun w hw p hp => hw.at_ (i := 1) rfl hp) rfl rfl rfl Tryz.underlying101 rfl ?_
  intro g1 row2 hi3
  change WR _ _ _ (CC F Γ [row2, rowdst, rowsrc]) _ _ (upd _ 7 (.pointer (some ⟨g1, 0, none⟩)))
  refine WR.nil ?_
  change WC _ _ _ _ _ _
  refine WC.block ?_
  refine WC.forEq h eqm_per (inv_put (fun _ _ => rfl)) hsrc.nodup (eqm_refl hdst.nodup) (fun (l4 : List (ByteArray × Rec)) (m7 : List (ByteArray × Rec)) σ w => ∃ (row5 : Rowb), ∃ (row8 : Rowb), slots σ [(0, .map (some mdst)), (7, .pointer (some ⟨g1, 0, none⟩))] ∧ CC F Γ [row5, row8, rowsrc] w ∧ ItO (strK Tryz.underlying9) recT.ag Γ row5 g1 msrc rowsrc src l4 ∧ MapO (strK Tryz.underlying9) recT.ag Γ row8 mdst m7 ∧ True) ?_ ?_
  · skip
    intro w hw
    exact ⟨row2, rowdst, (sl_ (by kernel_rfl)), hw, hi3, hdst, trivial⟩
  rintro G15 l4 m7 σ w hstep10 hK11 ⟨row5, row8, hsl, hw, hi6, ho9, -⟩
  refine Wpt.slots hsl ?_
  refine WC.here (C := CC F Γ [row5, row8, rowsrc]) ?_ hw
  clear hw hsl
  refine WC.rs ?_
  refine e_next (i := 0) rfl hsrc.ks hi6 (fun w hw p hp => hw.at_ (i := 2) rfl hp) rfl rfl rfl rfl (fun hl16 => ?_) (fun en17 l18 v19 row20 hp21 hok22 hv23 hit24 he25 => ?_)
  · skip
    obtain ⟨m26, hp27, h⟩ := hK11 hl16
    change WR _ _ _ (CC F Γ [row5, row8, rowsrc]) _ _ (upd _ 8 (.tuple #[.bool false]))
    refine va rfl rfl rfl (q_extract (v := .bool false) rfl rfl rfl) ?_
    refine WR.nil ?_
    change WC _ _ _ _ _ _
    refine WC.seq ?_
    refine WC.cfk (b := false) (by kernel_rfl) rfl ?_
    refine WC.exit ?_
    intro w hw
    obtain rfl := Option.some.inj h
    subst hF
    exact end_e (is := [1, 1]) (by kernel_rfl) hw rfl ⟨row8, rfl, rfl, (ho9.perm hp27.1), trivial⟩
  · skip
    obtain ⟨hlen12, s213, h, hgo14⟩ := hstep10 en17 l18 hp21
    obtain ⟨cs28, hv23, A29, c30, rfl, hf31⟩ := hv23
    obtain rfl : v19 = _ := hv23
    change WR _ _ _ (CC F Γ [row20, row8, rowsrc]) _ _ (upd _ 8 (.tuple #[.bool true, .string en17.1, .agg #[.string en17.2.key, .slice A29 en17.2.vers.length c30]]))
    refine va rfl rfl rfl (q_extract (v := .bool true) rfl rfl rfl) ?_
    refine WR.nil ?_
    change WC _ _ _ _ _ _
    refine WC.seq ?_
    refine WC.ctk (b := true) (by kernel_rfl) rfl ?_
    refine WC.skip ?_
    change WC _ _ _ _ _ _
    refine WC.block ?_
    refine WC.rs ?_
    refine va rfl rfl rfl (q_entry (kv := .string en17.1) (v := .agg #[.string en17.2.key, .slice A29 en17.2.vers.length c30]) (i := 0) rfl he25 (fun w hw p hp => hw.at_ (i := 2) rfl hp) rfl rfl) ?_
    refine va rfl rfl rfl (q_extract (v := .string en17.1) rfl rfl rfl) ?_
    refine va rfl rfl rfl (q_extract (v := .agg #[.string en17.2.key, .slice A29 en17.2.vers.length c30]) rfl rfl rfl) ?_
    refine e_alloc Tryz.zeroValue51 rfl rfl rfl rfl ?_
    intro g32
    refine va rfl rfl rfl (q_assign (v := .string en17.1) rfl (by kernel_rfl)) ?_
    refine e_st (i := 0) (v := .agg #[.string en17.2.key, .slice A29 en17.2.vers.length c30]) (new := #[.string en17.2.key, .slice A29 en17.2.vers.length c30]) rfl Tryz.sizeOf51 rfl rfl rfl rfl (by kernel_rfl) rfl rfl rfl rfl ?_
    refine WR.nil ?_
    change WC _ _ _ _ _ _
    refine WC.region ?_
    refine va rfl rfl rfl (q_move (v := .map (some mdst)) rfl (by kernel_rfl)) ?_
    refine va rfl rfl rfl (q_move (v := .string en17.1) rfl (by kernel_rfl)) ?_
    refine va rfl rfl rfl (q_ldla (i := 0) (vs := [.string en17.2.key, .slice A29 en17.2.vers.length c30]) rfl rfl Tryz.isAgg51 Tryz.sizeOf51 rfl rfl) ?_
    refine e_mapUpdate (i := 2) (x := en17.1) (v := .agg #[.string en17.2.key, .slice A29 en17.2.vers.length c30]) (a := en17.2) rfl rfl rfl Tryz.underlying101 rfl rfl (by kernel_rfl) rfl ho9 (by exact ⟨_, rfl, ⟨A29, c30, rfl, hf31⟩⟩) hok22 ?_
    intro row33 hm34
    refine WR.nil ?_
    intro w hw
    obtain rfl := Option.some.inj h
    exact ⟨l18, _, hlen12, hgo14, row20, row33, (sl_ (by kernel_rfl)), (hw.only (is := [1, 1, 1]) rfl), hit24, hm34, trivial⟩
abbrev r_tree_Tree_Recs (gt_ : Nat) (et_ : TG) (rowt_ : Rowb) (r : List Rec) (U : List Rowb) (Γ : Gh) (v : Value) : Prop := ∃ (A0 : Option Addr), ∃ (c0 : Nat), ∃ (row0 : Rowb), v = .slice A0 r.length c0 ∧ U = [rowt_, row0] ∧ Own recT Γ 51 row0 A0 c0 r ∧ True
set_option maxRecDepth 100000 in
set_option maxHeartbeats 400000 in
theorem t_tree_Tree_Recs {Γ : Gh} {w0 : World} {gt_ : Nat} {et_ : TG} {rowt_ : Rowb} {t_ : OTree} (ht_ : OTree.ob et_ Γ gt_ rowt_ t_) {Apath : Option Addr} {cpath : Nat} {path : List Int} (hpath : Sl intT Γ Apath path) (hpathc : path.length ≤ cpath) (hp : Pre [rowt_] Γ w0) {r : List Rec} (h : m_tree_Tree_Recs t_ path = some r) : Calls Tryz.prog 42 #[.pointer (some ⟨gt_, 0, none⟩), .slice Apath path.length cpath] w0 (Outc Γ [rowt_] w0 (r_tree_Tree_Recs gt_ et_ rowt_ r)) := by
  refine calls_of (N := 79) (rs := [4]) (args := [.pointer (some ⟨gt_, 0, none⟩), .slice Apath path.length cpath]) Tryz.func42 rfl Tryz.ntmps42 Tryz.results42 rfl ?_
  obtain ⟨F, hF⟩ : ∃ F : Fm, F = ⟨ids [rowt_], w0, Γ⟩ := ⟨_, rfl⟩
  refine WC.here (C := CC F Γ [rowt_]) ?_ (hF ▸ hp.start)
  refine WC.rs ?_
  refine va rfl rfl rfl (q_assign (v := .slice none 0 0) rfl (by kernel_rfl)) ?_
  refine WR.nil ?_
  change WC _ _ _ _ _ _
  refine WC.seq ?_
  refine WC.rs ?_
  refine va rfl rfl rfl (q_move (v := .slice Apath path.length cpath) rfl (by kernel_rfl)) ?_
  obtain ⟨z1, hz2, h⟩ := bnd h
  refine vc rfl rfl rfl (q_call (call_run Tryz.call62 rfl rfl (by kernel_rfl)) (fun w hw => t_tree_at (Γ := Gh.all w) (hpath.mono hw.sat.le_all) hpathc (Sat.all w) hz2)) ?_
  refine va rfl rfl rfl (q_move (v := .tuple #[.agg #[.int .i64 z1.1.1, .int .i64 z1.1.2.1, .int .i64 z1.1.2.2], .bool z1.2]) rfl (by kernel_rfl)) ?_
  refine va rfl rfl rfl (q_extract (v := .agg #[.int .i64 z1.1.1, .int .i64 z1.1.2.1, .int .i64 z1.1.2.2]) rfl rfl rfl) ?_
  refine va rfl rfl rfl (q_extract (v := .bool z1.2) rfl rfl rfl) ?_
  refine e_alloc Tryz.zeroValue107 rfl rfl rfl rfl ?_
  intro g3
  refine e_st (i := 0) (v := .agg #[.int .i64 z1.1.1, .int .i64 z1.1.2.1, .int .i64 z1.1.2.2]) (new := #[.int .i64 z1.1.1, .int .i64 z1.1.2.1, .int .i64 z1.1.2.2]) rfl Tryz.sizeOf107 rfl rfl rfl rfl (by kernel_rfl) rfl rfl rfl rfl ?_
  refine va rfl rfl rfl (q_assign (v := .bool z1.2) rfl (by kernel_rfl)) ?_
  refine WR.nil ?_
  change WC _ _ _ _ _ _
  refine WC.rs ?_
  refine va rfl rfl rfl (q_move (v := .bool z1.2) rfl (by kernel_rfl)) ?_
  refine va rfl rfl rfl (q_not rfl rfl) ?_
  refine WR.nil ?_
  change WC _ _ _ _ _ _
  refine WC.cif h (by kernel_rfl) (fun hb4 h => ?_) (fun hb4 h => ?_)
  · skip
    refine WC.rs ?_
    refine va rfl rfl rfl (q_assign (v := .slice none 0 0) rfl (by kernel_rfl)) ?_
    refine WR.nil ?_
    change WC _ _ _ _ _ _
    refine WC.ret ?_
    intro w hw
    have hw := hw.pad
    obtain rfl := Option.some.inj h
    subst hF
    exact end_e (is := [2, 0]) (by kernel_rfl) hw rfl ⟨none, 0, [], rfl, rfl, (Own.nil recT _ 51), trivial⟩
  · skip
    refine WC.skip ?_
    change WC _ _ _ _ _ _
    refine WC.rs ?_
    refine e_makeMap (strK Tryz.underlying9) recT.ag rfl rfl rfl rfl ?_
    intro g5 row6 hm7
    refine va rfl rfl rfl (q_assign (v := .map (some g5)) rfl (by kernel_rfl)) ?_
    refine WR.nil ?_
    change WC _ _ _ _ _ _
    refine WC.seq ?_
    refine WC.rs ?_
    refine va rfl rfl rfl (q_move (v := .int .i64 0) rfl (by kernel_rfl)) ?_
    refine WR.nil ?_
    change WC _ _ _ _ _ _
    refine WC.block ?_
    refine WC.forU h (fun (i14 : Nat) (m10 : List (ByteArray × Rec)) σ w => ∃ (Γ8 : Gh), ∃ (row11 : Rowb), slots σ [(0, .pointer (some ⟨gt_, 0, none⟩)), (1, .slice Apath path.length cpath), (7, .map (some g5)), (22, .int .i64 ((i14 : Nat) : Int))] ∧ CC F Γ8 [row11, rowt_] w ∧ Gh.le Γ Γ8 ∧ MapO (strK Tryz.underlying9) recT.ag Γ8 row11 g5 m10 ∧ True) ?_ ?_
    · skip
      intro w hw
      exact ⟨Γ, row6, (sl_ (by kernel_rfl)), (hw.only (is := [0, 1]) rfl), (Gh.refl _), hm7, trivial⟩
    rintro f13 i14 m10 σ w hi15 hlt16 hge17 ⟨Γ8, row11, hsl, hw, hl9, ho12, -⟩
    refine Wpt.slots hsl ?_
    refine WC.here (C := CC F Γ8 [row11, rowt_]) ?_ hw
    clear hw hsl
    refine WC.rs ?_
    refine va rfl rfl rfl (q_lss rfl rfl rfl) ?_
    refine WR.nil ?_
    change WC _ _ _ _ _ _
    refine WC.seq ?_
    refine WC.cond (b := (decide (((i14 : Nat) : Int) < 16))) (by kernel_rfl) (fun hb18 => ?_) (fun hb18 => ?_)
    · skip
      have hl19 := ilt hb18
      have h := hlt16 hl19
      refine WC.skip ?_
      change WC _ _ _ _ _ _
      refine WC.seq ?_
      refine WC.block ?_
      refine WC.rs ?_
      refine va rfl rfl rfl (q_move (v := .int .i64 ((i14 : Nat) : Int)) rfl (by kernel_rfl)) ?_
      refine va rfl rfl rfl (q_assign (v := .int .i64 ((i14 : Nat) : Int)) rfl (by kernel_rfl)) ?_
      refine WR.nil ?_
      change WC _ _ _ _ _ _
      refine WC.rs ?_
      refine va rfl rfl rfl (q_move (v := .pointer (some ⟨gt_, 0, none⟩)) rfl (by kernel_rfl)) ?_
      refine va rfl rfl rfl (q_move (v := .int .i64 ((i14 : Nat) : Int)) rfl (by kernel_rfl)) ?_
      refine va rfl rfl rfl (q_nil (A := some ⟨gt_, 0, none⟩) rfl rfl rfl) ?_
      refine va rfl rfl rfl (q_fl 0 fld_105_0 rfl rfl rfl) ?_
      refine va rfl rfl rfl (q_ixd (i := i14) Tryz.underlying103 Tryz.sizeOf102 rfl rfl rfl hl19) ?_
      have hq := (ht_.mono hl9)
      obtain ⟨cs_20, rL_20, sm_20, rS_20, hrow_20, hM_20, hl_20, hS_20, -⟩ := hq
      refine va rfl rfl rfl (q_ldAs (i := 1) (n := 16) (cs := cs_20) rfl (hrow_20 ▸ List.mem_flatten.2 ⟨([(gt_, .cells (cs_20 ++ [Value.map (some sm_20)]).toArray et_.1 (0, 0))] : Rowb), List.mem_cons_self .., List.mem_singleton.2 rfl⟩) (by rw [(hM_20.len.trans hl_20)]; exact leaf_le hl19) rfl Tryz.isAgg102 Tryz.sizeOf102 rfl) ?_
      refine va rfl rfl rfl (q_move (v := .int .i64 0) rfl (by kernel_rfl)) ?_
      refine WR.nil ?_
      change WC _ _ _ _ _ _
      refine WC.block ?_
      refine WC.forU h (fun (i27 : Nat) (m23 : List (ByteArray × Rec)) σ w => ∃ (Γ21 : Gh), ∃ (row24 : Rowb), slots σ [(0, .pointer (some ⟨gt_, 0, none⟩)), (1, .slice Apath path.length cpath), (7, .map (some g5)), (8, .int .i64 ((i14 : Nat) : Int)), (22, .int .i64 ((i14 : Nat) : Int)), (30, .agg (((cs_20).drop (0 + i14 * 16)).take 16).toArray), (31, .int .i64 ((i27 : Nat) : Int))] ∧ CC F Γ21 [row24, rowt_] w ∧ Gh.le Γ8 Γ21 ∧ MapO (strK Tryz.underlying9) recT.ag Γ21 row24 g5 m23 ∧ True) ?_ ?_
      · skip
        intro w hw
        exact ⟨Γ8, row11, (sl_ (by kernel_rfl)), hw, (Gh.refl _), ho12, trivial⟩
      rintro f26 i27 m23 σ w hi28 hlt29 hge30 ⟨Γ21, row24, hsl, hw, hl22, ho25, -⟩
      refine Wpt.slots hsl ?_
      refine WC.here (C := CC F Γ21 [row24, rowt_]) ?_ hw
      clear hw hsl
      refine WC.rs ?_
      refine va rfl rfl rfl (q_lss rfl rfl rfl) ?_
      refine WR.nil ?_
      change WC _ _ _ _ _ _
      refine WC.seq ?_
      refine WC.cond (b := (decide (((i27 : Nat) : Int) < 16))) (by kernel_rfl) (fun hb31 => ?_) (fun hb31 => ?_)
      · skip
        have hl32 := ilt hb31
        have h := hlt29 hl32
        refine WC.skip ?_
        change WC _ _ _ _ _ _
        refine WC.cut (fun σ w => ∃ (m35 : List (ByteArray × Rec)), ∃ (Γ33 : Gh), ∃ (row36 : Rowb), m_tree_Tree_Recs_j21 f26 m35 = some r ∧ slots σ [(0, .pointer (some ⟨gt_, 0, none⟩)), (1, .slice Apath path.length cpath), (7, .map (some g5)), (8, .int .i64 ((i14 : Nat) : Int)), (22, .int .i64 ((i14 : Nat) : Int)), (30, .agg (((cs_20).drop (0 + i14 * 16)).take 16).toArray), (31, .int .i64 ((i27 : Nat) : Int))] ∧ CC F Γ33 [row36, rowt_] w ∧ Gh.le Γ21 Γ33 ∧ MapO (strK Tryz.underlying9) recT.ag Γ33 row36 g5 m35 ∧ True) ?_ ?_
        · skip
          refine WC.block ?_
          refine WC.rs ?_
          refine va rfl rfl rfl (q_move (v := .int .i64 ((i27 : Nat) : Int)) rfl (by kernel_rfl)) ?_
          refine va rfl rfl rfl (q_ixv (i := i27) Tryz.underlying102 Tryz.isAgg101 Tryz.sizeOf101 (by rw [(hM_20.len.trans hl_20)]; exact leaf_le hl19) rfl rfl rfl hl32) ?_
          refine va rfl rfl rfl (q_assign (v := .int .i64 ((i27 : Nat) : Int)) rfl (by kernel_rfl)) ?_
          refine va rfl rfl rfl (q_assign (v := cgt cs_20 (0 + i14 * 16 + i27 * 1)) rfl (by kernel_rfl)) ?_
          refine WR.nil ?_
          change WC _ _ _ _ _ _
          refine WC.seq ?_
          refine WC.rs ?_
          refine va rfl rfl rfl (q_move (v := .slice Apath path.length cpath) rfl (by kernel_rfl)) ?_
          refine va rfl rfl rfl (q_len_slice rfl Tryz.underlying23 rfl) ?_
          refine va rfl rfl rfl (q_gtr rfl rfl rfl) ?_
          refine va rfl rfl rfl (q_move (v := .bool (decide (0 < ((path.length : Nat) : Int)))) rfl (by kernel_rfl)) ?_
          refine vg1 rfl rfl rfl rfl rfl (fun hg38 => QV.qo (q_move (v := .slice Apath path.length cpath) rfl (by kernel_rfl))) ?_
          obtain ⟨hk40, h⟩ := chk_some h
          refine vg1 rfl rfl rfl rfl rfl (fun hg39 => QV.qo (q_ixn (i := 0) Tryz.underlying23 Tryz.sizeOf3 rfl (gu hg39 rfl) rfl (of_decide_eq_true (imp_of hk40 hg39)) ((hpath.mono (hl9.trans hl22)).some_ (of_decide_eq_true (imp_of hk40 hg39))))) ?_
          refine vg1 rfl rfl rfl rfl rfl (fun hg41 => QV.qo (q_ld (c := 0) (v := .int .i64 (gt path 0)) ((hpath.mono (hl9.trans hl22)).intT_at (of_decide_eq_true (imp_of hk40 hg41))).2 rfl Tryz.isAgg3 (gu hg41 rfl) rfl)) ?_
          refine vg1 rfl rfl rfl rfl rfl (fun hg42 => QV.qo (q_move (v := .int .i64 ((i14 : Nat) : Int)) rfl (by kernel_rfl))) ?_
          refine vg1 rfl rfl rfl rfl rfl (fun hg43 => QV.qo (q_neq rfl (gu hg43 rfl) (gu hg43 rfl))) ?_
          refine va rfl rfl rfl (q_pick rfl rfl (pk_and' (g := (decide (0 < ((path.length : Nat) : Int)))) (y := ((gt path 0) != ((i14 : Nat) : Int))))) ?_
          refine va rfl rfl rfl (q_move (v := .bool ((decide (0 < ((path.length : Nat) : Int))) && ((gt path 0) != ((i14 : Nat) : Int)))) rfl (by kernel_rfl)) ?_
          refine vg0 rfl rfl rfl rfl rfl (fun hg44 => QV.qo (q_move (v := .slice Apath path.length cpath) rfl (by kernel_rfl))) ?_
          refine vg0 rfl rfl rfl rfl rfl (fun hg45 => QV.qo (q_len_slice rfl Tryz.underlying23 (gu hg45 rfl))) ?_
          refine vg0 rfl rfl rfl rfl rfl (fun hg46 => QV.qo (q_gtr rfl (gu hg46 rfl) rfl)) ?_
          refine vg0 rfl rfl rfl rfl rfl (fun hg47 => QV.qo (q_move (v := .bool (decide (1 < ((path.length : Nat) : Int)))) rfl (gu hg47 rfl))) ?_
          refine vh1 (c0 := (!((decide (0 < ((path.length : Nat) : Int))) && ((gt path 0) != ((i14 : Nat) : Int))))) (g := (decide (1 < ((path.length : Nat) : Int)))) rfl rfl rfl rfl rfl (fun hg48 => QV.qo (q_move (v := .slice Apath path.length cpath) rfl (by kernel_rfl))) ?_
          obtain ⟨hk50, h⟩ := chk_some h
          refine vh1 (c0 := (!((decide (0 < ((path.length : Nat) : Int))) && ((gt path 0) != ((i14 : Nat) : Int))))) (g := (decide (1 < ((path.length : Nat) : Int)))) rfl rfl rfl rfl rfl (fun hg49 => QV.qo (q_ixn (i := 1) Tryz.underlying23 Tryz.sizeOf3 rfl (gu hg49 rfl) rfl (of_decide_eq_true (imp_of hk50 hg49)) ((hpath.mono (hl9.trans hl22)).some_ (of_decide_eq_true (imp_of hk50 hg49))))) ?_
          refine vh1 (c0 := (!((decide (0 < ((path.length : Nat) : Int))) && ((gt path 0) != ((i14 : Nat) : Int))))) (g := (decide (1 < ((path.length : Nat) : Int)))) rfl rfl rfl rfl rfl (fun hg51 => QV.qo (q_ld (c := 0) (v := .int .i64 (gt path 1)) ((hpath.mono (hl9.trans hl22)).intT_at (of_decide_eq_true (imp_of hk50 hg51))).2 rfl Tryz.isAgg3 (gu hg51 rfl) rfl)) ?_
          refine vh1 (c0 := (!((decide (0 < ((path.length : Nat) : Int))) && ((gt path 0) != ((i14 : Nat) : Int))))) (g := (decide (1 < ((path.length : Nat) : Int)))) rfl rfl rfl rfl rfl (fun hg52 => QV.qo (q_move (v := .int .i64 ((i27 : Nat) : Int)) rfl (by kernel_rfl))) ?_
          refine vh1 (c0 := (!((decide (0 < ((path.length : Nat) : Int))) && ((gt path 0) != ((i14 : Nat) : Int))))) (g := (decide (1 < ((path.length : Nat) : Int)))) rfl rfl rfl rfl rfl (fun hg53 => QV.qo (q_neq rfl (gu hg53 rfl) (gu hg53 rfl))) ?_
          refine vg0 rfl rfl rfl rfl rfl (fun hg54 => QV.qo (q_pick rfl (gu hg54 rfl) (pk_and (c := (!((decide (0 < ((path.length : Nat) : Int))) && ((gt path 0) != ((i14 : Nat) : Int))))) (g := (decide (1 < ((path.length : Nat) : Int)))) (y := ((gt path 1) != ((i27 : Nat) : Int))) hg54))) ?_
          refine va rfl rfl rfl (q_pick rfl rfl (pk_or' (g := ((decide (0 < ((path.length : Nat) : Int))) && ((gt path 0) != ((i14 : Nat) : Int)))) (y := ((decide (1 < ((path.length : Nat) : Int))) && ((gt path 1) != ((i27 : Nat) : Int)))))) ?_
          refine WR.nil ?_
          change WC _ _ _ _ _ _
          refine WC.cif h (by kernel_rfl) (fun hb55 h => ?_) (fun hb55 h => ?_)
          · skip
            refine WC.exit ?_
            intro w hw
            exact ⟨m23, Γ21, row24, h, (sl_ (by kernel_rfl)), hw, (Gh.refl _), ho25, trivial⟩
          · skip
            refine WC.skip ?_
            change WC _ _ _ _ _ _
            refine WC.region ?_
            refine va rfl rfl rfl (q_move (v := .map (some g5)) rfl (by kernel_rfl)) ?_
            refine va rfl rfl rfl (q_move (v := cgt cs_20 (0 + i14 * 16 + i27 * 1)) rfl (by kernel_rfl)) ?_
            obtain ⟨rA_56, r_56, rB_56, hrl_56, hO_56, hcl_56⟩ := hM_20.at_ (i := 0 + i14 * 16 + i27 * 1) (by rw [hl_20]; exact (leaf_lt hl19 hl32))
            have hrw_56 : rowt_ = ([[(gt_, .cells (cs_20 ++ [Value.map (some sm_20)]).toArray et_.1 (0, 0))], rA_56, r_56, rB_56, rS_20] : List Rowb).flatten := by rw [hrow_20, hrl_56]; simp only [List.flatten_cons, List.flatten_nil, List.append_nil, List.append_assoc]
            refine (Option.eq_none_or_eq_some (gt t_.leaves (0 + i14 * 16 + i27 * 1))).elim (fun ho57 => ?_) (fun ho57 => ?_)
            · skip
              have h := optm_n ho57 h
              obtain ⟨hc60, -⟩ : cgt cs_20 (0 + i14 * 16 + i27 * 1) = Value.map none ∧ r_56 = [] := (by have h9 := hO_56; rw [ho57] at h9; exact h9)
              obtain ⟨z62, hz63, h⟩ := bnd h
              refine e_call (is := [0]) rfl rfl (call_run Tryz.call64 rfl rfl (args2 rfl (Eq.trans (b := cgt cs_20 (0 + i14 * 16 + i27 * 1)) rfl hc60))) rfl (fun w hp => t_maps_Copy_map_string_api_Rec_map_string_api_Rec_string_api_Rec_nil ho25 hp hz63) ?_
              rintro Γ64 U66 v67 hl65 ⟨rfl, rfl, _⟩
              change WR _ _ _ (CC F Γ64 [row24, rowt_]) _ _ (upd _ 59 (.tuple #[]))
              refine WR.nil ?_
              intro w hw
              exact ⟨m23, Γ64, row24, h, (sl_ (by kernel_rfl)), hw, hl65, (ho25.mono hl65), trivial⟩
            · skip
              obtain ⟨es58, ho57⟩ := ho57
              have h := optm_s ho57 h
              intro w hw; have hw := hw.unfold (i := 1) rfl hrw_56
              refine WR.here (C := CC F Γ21 [[(gt_, .cells (cs_20 ++ [Value.map (some sm_20)]).toArray et_.1 (0, 0))], rA_56, r_56, rB_56, rS_20, row24]) ?_ hw
              clear hw
              obtain ⟨m59, hc60, hm61⟩ : ∃ m, cgt cs_20 (0 + i14 * 16 + i27 * 1) = Value.map (some m) ∧ MapO (strK Tryz.underlying9) recT.ag Γ8 r_56 m es58 := (by have h9 := hO_56; rw [ho57] at h9; exact h9)
              obtain ⟨z68, hz69, h⟩ := bnd h
              refine e_call (is := [5, 2]) rfl rfl (call_run Tryz.call64 rfl rfl (args2 rfl (Eq.trans (b := cgt cs_20 (0 + i14 * 16 + i27 * 1)) rfl hc60))) rfl (fun w hp => t_maps_Copy_map_string_api_Rec_map_string_api_Rec_string_api_Rec ho25 (hm61.mono hl22) hp hz69) ?_
              rintro Γ70 U72 v73 hl71 ⟨row74, rfl, rfl, hr75, _⟩
              change WR _ _ _ (CC F Γ70 [row74, r_56, [(gt_, .cells (cs_20 ++ [Value.map (some sm_20)]).toArray et_.1 (0, 0))], rA_56, rB_56, rS_20]) _ _ (upd _ 59 (.tuple #[]))
              refine WR.nil ?_
              intro w hw
              have hw := hw.fold (is := [2, 2, 1, 1, 1]) rfl hrw_56
              exact ⟨z68, Γ70, row74, h, (sl_ (by kernel_rfl)), (hw.only (is := [1, 0]) rfl), hl71, hr75, trivial⟩
        · skip
          rintro σ w ⟨m35, Γ33, row36, h, hsl, hw, hl34, ho37, -⟩
          refine Wpt.slots hsl ?_
          refine WC.here (C := CC F Γ33 [row36, rowt_]) ?_ hw
          clear hw hsl
          refine WC.region ?_
          refine va rfl rfl rfl (q_add_r (r := ((i27 + 1 : Nat) : Int)) rfl rfl rfl (ctr_lit hl32 (by decide))) ?_
          refine va rfl rfl rfl (q_move (v := .int .i64 ((i27 + 1 : Nat) : Int)) rfl (by kernel_rfl)) ?_
          refine WR.nil ?_
          intro w hw
          exact ⟨hl32, m35, h, Γ33, row36, (sl_ (by kernel_rfl)), hw, (hl22.trans hl34), ho37, trivial⟩
      · skip
        have h := hge30 (ige hb31)
        refine WC.exit ?_
        change WC _ _ _ _ _ _
        refine WC.region ?_
        refine va rfl rfl rfl (q_add_r (r := ((i14 + 1 : Nat) : Int)) rfl rfl rfl (ctr_lit hl19 (by decide))) ?_
        refine va rfl rfl rfl (q_move (v := .int .i64 ((i14 + 1 : Nat) : Int)) rfl (by kernel_rfl)) ?_
        refine WR.nil ?_
        intro w hw
        exact ⟨hl19, m23, h, Γ21, row24, (sl_ (by kernel_rfl)), hw, (hl9.trans hl22), ho25, trivial⟩
    · skip
      have h := hge17 (ige hb18)
      refine WC.exit ?_
      change WC _ _ _ _ _ _
      refine WC.rs ?_
      refine va rfl rfl rfl (q_assign (v := .slice none 0 0) rfl (by kernel_rfl)) ?_
      refine WR.nil ?_
      change WC _ _ _ _ _ _
      refine WC.seq ?_
      refine WC.rs ?_
      refine va rfl rfl rfl (q_move (v := .map (some g5)) rfl (by kernel_rfl)) ?_
      refine e_keys (ρ := keys65_ren) keys65 (mb := some g5) rfl rfl (call_run Tryz.call65 rfl rfl (by kernel_rfl)) ?_
      intro g77
      change WR _ _ _ (CC F Γ8 [[(g77, .cells #[.map (some g5)] 101 (0, 0))], row11, rowt_]) _ _ (upd _ 63 (.func (.func 91) #[] #[.pointer (some ⟨g77, 0, none⟩)]))
      obtain ⟨hk78, h⟩ := chk_some h
      refine e_call (is := [0, 0]) rfl rfl (call_run Tryz.call53 rfl rfl (by kernel_rfl)) rfl (fun w hp => sk53_65 ho12 (of_decide_eq_true hk78) hp) ?_
      rintro Γ79 U81 v82 hl80 ⟨A83, c84, row85, rfl, rfl, ho86⟩
      change WR _ _ _ (CC F Γ79 [[(g77, .cells #[.map (some g5)] 101 (0, 0))], row11, row85, rowt_]) _ _ (upd _ 64 (.slice A83 (skeys m10).length c84))
      refine va rfl rfl rfl (q_len_slice rfl Tryz.underlying89 rfl) ?_
      refine va rfl rfl rfl (q_move (v := .int .i64 0) rfl (by kernel_rfl)) ?_
      refine WR.nil ?_
      change WC _ _ _ _ _ _
      refine WC.block ?_
      refine WC.forI h (fun (i95 : Nat) (out_89 : List Rec) σ w => ∃ (Γ87 : Gh), ∃ (A90 : Option Addr), ∃ (c91 : Nat), ∃ (row92 : Rowb), slots σ [(7, .map (some g5)), (11, .slice A90 out_89.length c91), (64, .slice A83 (skeys m10).length c84), (65, .int .i64 (((skeys m10).length : Nat) : Int)), (66, .int .i64 ((i95 : Nat) : Int))] ∧ CC F Γ87 [row92, row11, row85, rowt_] w ∧ Gh.le Γ79 Γ87 ∧ Own recT Γ87 51 row92 A90 c91 out_89 ∧ True) ?_ ?_
      · skip
        intro w hw
        have hw := hw.pad
        exact ⟨Γ79, none, 0, [], (sl_ (by kernel_rfl)), (hw.only (is := [0, 1, 1, 1]) rfl), (Gh.refl _), (Own.nil recT _ 51), trivial⟩
      rintro f94 i95 out_89 σ w hi96 hlt97 hge98 ⟨Γ87, A90, c91, row92, hsl, hw, hl88, ho93, -⟩
      refine Wpt.slots hsl ?_
      refine WC.here (C := CC F Γ87 [row92, row11, row85, rowt_]) ?_ hw
      clear hw hsl
      refine WC.rs ?_
      refine va rfl rfl rfl (q_lss rfl rfl rfl) ?_
      refine WR.nil ?_
      change WC _ _ _ _ _ _
      refine WC.seq ?_
      refine WC.cond (b := (decide (((i95 : Nat) : Int) < (((skeys m10).length : Nat) : Int)))) (by kernel_rfl) (fun hb99 => ?_) (fun hb99 => ?_)
      · skip
        have hl100 := ilt hb99
        have h := hlt97 hl100
        refine WC.skip ?_
        change WC _ _ _ _ _ _
        refine WC.seq ?_
        refine WC.block ?_
        refine WC.rs ?_
        refine va rfl rfl rfl (q_ixn (i := i95) Tryz.underlying89 Tryz.sizeOf9 rfl rfl rfl hl100 ((ho86.mono hl88).some_ hl100)) ?_
        refine va rfl rfl rfl (q_ldo (c := 0) (v := .string (gt (skeys m10) i95)) (i := 2) rfl ((ho86.mono hl88).strT_at hl100).2 rfl Tryz.isAgg9 rfl rfl) ?_
        refine va rfl rfl rfl (q_assign (v := .string (gt (skeys m10) i95)) rfl (by kernel_rfl)) ?_
        refine WR.nil ?_
        change WC _ _ _ _ _ _
        refine WC.region ?_
        refine va rfl rfl rfl (q_move (v := .slice A90 out_89.length c91) rfl (by kernel_rfl)) ?_
        refine va rfl rfl rfl (q_move (v := .map (some g5)) rfl (by kernel_rfl)) ?_
        refine va rfl rfl rfl (q_move (v := .string (gt (skeys m10) i95)) rfl (by kernel_rfl)) ?_
        obtain ⟨v101, hv102, hat103⟩ := MapO.look (ho12.mono (hl80.trans hl88)) (gt (skeys m10) i95) (z := .agg #[.string ByteArray.empty, .slice none 0 0]) (zx := (⟨ByteArray.empty, []⟩ : Rec)) ⟨_, rfl, none, 0, rfl, ⟨(show (ByteArray.empty : ByteArray).size ≤ lim by decide), ⟨Nat.zero_le _, Sl.nil _ _ _⟩⟩⟩
        obtain ⟨cs104, hv102, A105, c106, rfl, hf107⟩ := hv102
        obtain rfl : v101 = _ := hv102
        refine va rfl rfl rfl (q_lookup1 (v := .agg #[.string ((mget (gt (skeys m10) i95) m10).getD (⟨ByteArray.empty, []⟩ : Rec)).key, .slice A105 (((mget (gt (skeys m10) i95) m10).getD (⟨ByteArray.empty, []⟩ : Rec)).vers).length c106]) hat103 rfl Tryz.underlying101 Tryz.zeroValue51 rfl rfl (i := 1) rfl) ?_
        obtain ⟨z108, hz109, h⟩ := bnd h
        refine e_call (is := []) rfl rfl (call_run Tryz.call66 rfl rfl (by kernel_rfl)) rfl (fun w hp => t_tree_own ((mget (gt (skeys m10) i95) m10).getD (⟨ByteArray.empty, []⟩ : Rec)) hf107 hp hz109) ?_
        rintro Γ110 U112 v113 hl111 ⟨A114, c115, rfl, rfl, hr116, _⟩
        change WR _ _ _ (CC F Γ110 [row92, row11, row85, rowt_]) _ _ (upd _ 74 (.agg #[.string z108.key, .slice A114 z108.vers.length c115]))
        refine e_buildSlice (cs := #[.string z108.key, .slice A114 z108.vers.length c115]) (e := 51) rfl rfl rfl rfl (fun w => by kernel_rfl) ?_
        intro g117
        obtain ⟨hk118, h⟩ := chk_some h
        refine e_append (T := recT) (xs := out_89) (ys := [z108]) elem_22 (i := 1) rfl rfl rfl rfl rfl rfl rfl (ho93.mono hl111) (of_decide_eq_true hk118) (fun w hw => src_one (T := recT) (y := z108) (i := 0) rfl (by exact ⟨A114, c115, rfl, hr116⟩) hw) ?_
        intro row119 A120 c121 ho122
        refine va rfl rfl rfl (q_assign (v := .slice A120 (out_89 ++ [z108]).length c121) rfl (by kernel_rfl)) ?_
        refine WR.nil ?_
        change WC _ _ _ _ _ _
        refine WC.region ?_
        refine va rfl rfl rfl (q_add_r (r := ((i95 + 1 : Nat) : Int)) rfl rfl rfl (ctr_len hl100 (ho86.mono hl88).le)) ?_
        refine va rfl rfl rfl (q_move (v := .int .i64 ((i95 + 1 : Nat) : Int)) rfl (by kernel_rfl)) ?_
        refine WR.nil ?_
        intro w hw
        exact ⟨hl100, (out_89 ++ [z108]), h, Γ110, A120, c121, row119, (sl_ (by kernel_rfl)), (hw.only (is := [1, 1, 1, 1]) rfl), (hl88.trans hl111), ho122, trivial⟩
      · skip
        have h := hge98 (ige hb99)
        refine WC.exit ?_
        change WC _ _ _ _ _ _
        refine WC.rs ?_
        refine va rfl rfl rfl (q_move (v := .slice A90 out_89.length c91) rfl (by kernel_rfl)) ?_
        refine va rfl rfl rfl (q_assign (v := .slice A90 out_89.length c91) rfl (by kernel_rfl)) ?_
        refine WR.nil ?_
        change WC _ _ _ _ _ _
        refine WC.ret ?_
        intro w hw
        obtain rfl := Option.some.inj h
        subst hF
        exact end_e (is := [3, 0]) (by kernel_rfl) hw rfl ⟨A90, c91, row92, rfl, rfl, ho93, trivial⟩
abbrev r_slices_Clone_int_int (r : List Int) (U : List Rowb) (Γ : Gh) (v : Value) : Prop := ∃ (A0 : Option Addr), ∃ (c0 : Nat), ∃ (row0 : Rowb), v = .slice A0 r.length c0 ∧ U = [row0] ∧ Own intT Γ 3 row0 A0 c0 r ∧ True
set_option maxRecDepth 100000 in
set_option maxHeartbeats 400000 in
theorem t_slices_Clone_int_int {Γ : Gh} {w0 : World} {As_ : Option Addr} {cs_ : Nat} {s_ : List Int} (hs_ : Sl intT Γ As_ s_) (hs_c : s_.length ≤ cs_) (hp : Pre [] Γ w0) {r : List Int} (h : m_slices_Clone_int_int s_ = some r) : Calls Tryz.prog 41 #[.slice As_ s_.length cs_] w0 (Outc Γ [] w0 (r_slices_Clone_int_int r)) := by
  refine calls_of (N := 8) (rs := [2]) (args := [.slice As_ s_.length cs_]) Tryz.func41 rfl Tryz.ntmps41 Tryz.results41 rfl ?_
  obtain ⟨F, hF⟩ : ∃ F : Fm, F = ⟨ids [], w0, Γ⟩ := ⟨_, rfl⟩
  refine WC.here (C := CC F Γ []) ?_ (hF ▸ hp.start)
  refine WC.rs ?_
  refine va rfl rfl rfl (q_assign (v := .slice none 0 0) rfl (by kernel_rfl)) ?_
  refine WR.nil ?_
  change WC _ _ _ _ _ _
  refine WC.seq ?_
  refine WC.rs ?_
  refine va rfl rfl rfl (q_move (v := .slice As_ s_.length cs_) rfl (by kernel_rfl)) ?_
  refine va rfl rfl rfl (q_nil_slice Tryz.underlying23 rfl rfl rfl) ?_
  refine WR.nil ?_
  change WC _ _ _ _ _ _
  refine WC.cnil h (by kernel_rfl) (fun hb => hs_.none_nil hb) (fun hb1 h => ?_) (fun hb1 h => ?_)
  · skip
    refine WC.rs ?_
    refine va rfl rfl rfl (q_assign (v := .slice none 0 0) rfl (by kernel_rfl)) ?_
    refine WR.nil ?_
    change WC _ _ _ _ _ _
    refine WC.ret ?_
    intro w hw
    have hw := hw.pad
    obtain rfl := Option.some.inj h
    subst hF
    exact end_e (is := [0]) (by kernel_rfl) hw rfl ⟨none, 0, [], rfl, rfl, (Own.nil intT _ 3), trivial⟩
  · skip
    refine WC.skip ?_
    change WC _ _ _ _ _ _
    refine WC.rs ?_
    refine e_buildSlice (cs := #[]) (e := 3) rfl rfl rfl rfl (fun w => by kernel_rfl) ?_
    intro g2
    refine va rfl rfl rfl (q_move (v := .slice As_ s_.length cs_) rfl (by kernel_rfl)) ?_
    have ho3 : Own intT Γ 3 [(g2, .cells #[] 3 (0, 0))] (some ⟨g2, 0, none⟩) 0 ([] : List Int) := Own.of_blockL (T := intT) (ys := ([] : List Int)) [] rfl (show 0 ≤ lim by decide) (show True from trivial)
    obtain ⟨hk4, h⟩ := chk_some h
    refine e_append (T := intT) (xs := ([] : List Int)) (ys := s_) elem_23 (i := 0) rfl rfl rfl rfl rfl rfl rfl ho3 (of_decide_eq_true hk4) (fun w hw => src_sl hs_ hw) ?_
    intro row5 A6 c7 ho8
    refine va rfl rfl rfl (q_assign (v := .slice A6 (([] : List Int) ++ s_).length c7) rfl (by kernel_rfl)) ?_
    refine WR.nil ?_
    change WC _ _ _ _ _ _
    refine WC.ret ?_
    intro w hw
    obtain rfl := Option.some.inj h
    subst hF
    exact end_e (is := [0]) (by kernel_rfl) hw rfl ⟨A6, c7, row5, rfl, rfl, ho8, trivial⟩
abbrev r_tree_Tree_Kids (gt_ : Nat) (et_ : TG) (r : OTree × (List Int)) (U : List Rowb) (Γ : Gh) (v : Value) : Prop := ∃ (rowt_' : Rowb), ∃ (A0 : Option Addr), ∃ (c0 : Nat), ∃ (row0 : Rowb), v = .slice A0 r.2.length c0 ∧ U = [rowt_', row0] ∧ OTree.ob et_ Γ gt_ rowt_' r.1 ∧ Own u64T Γ 67 row0 A0 c0 r.2 ∧ A0.isNone = r.2.isEmpty ∧ True
set_option maxRecDepth 100000 in
set_option maxHeartbeats 400000 in
theorem t_tree_Tree_Kids {Γ : Gh} {w0 : World} {H : OTree → List Int → Option (OTree × Int)} (hH : HashC H) {gt_ : Nat} {et_ : TG} {rowt_ : Rowb} {t_ : OTree} (ht_ : OTree.ob et_ Γ gt_ rowt_ t_) {Apath : Option Addr} {cpath : Nat} {path : List Int} (hpath : Sl intT Γ Apath path) (hpathc : path.length ≤ cpath) (hlen : ∀ p ∈ et_.2, p.1.1 ≤ path.length) (hp : Pre [rowt_] Γ w0) {r : OTree × (List Int)} (h : m_tree_Tree_Kids H t_ path = some r) : Calls Tryz.prog 38 #[.pointer (some ⟨gt_, 0, none⟩), .slice Apath path.length cpath] w0 (Outc Γ [rowt_] w0 (r_tree_Tree_Kids gt_ et_ r)) := by
  refine calls_of (N := 36) (rs := [4]) (args := [.pointer (some ⟨gt_, 0, none⟩), .slice Apath path.length cpath]) Tryz.func38 rfl Tryz.ntmps38 Tryz.results38 rfl ?_
  obtain ⟨F, hF⟩ : ∃ F : Fm, F = ⟨ids [rowt_], w0, Γ⟩ := ⟨_, rfl⟩
  refine WC.here (C := CC F Γ [rowt_]) ?_ (hF ▸ hp.start)
  refine WC.rs ?_
  refine va rfl rfl rfl (q_assign (v := .slice none 0 0) rfl (by kernel_rfl)) ?_
  refine WR.nil ?_
  change WC _ _ _ _ _ _
  refine WC.seq ?_
  refine WC.rs ?_
  refine va rfl rfl rfl (q_move (v := .slice Apath path.length cpath) rfl (by kernel_rfl)) ?_
  obtain ⟨z1, hz2, h⟩ := bnd h
  refine vc rfl rfl rfl (q_call (call_run Tryz.call62 rfl rfl (by kernel_rfl)) (fun w hw => t_tree_at (Γ := Gh.all w) (hpath.mono hw.sat.le_all) hpathc (Sat.all w) hz2)) ?_
  refine va rfl rfl rfl (q_move (v := .tuple #[.agg #[.int .i64 z1.1.1, .int .i64 z1.1.2.1, .int .i64 z1.1.2.2], .bool z1.2]) rfl (by kernel_rfl)) ?_
  refine va rfl rfl rfl (q_extract (v := .agg #[.int .i64 z1.1.1, .int .i64 z1.1.2.1, .int .i64 z1.1.2.2]) rfl rfl rfl) ?_
  refine va rfl rfl rfl (q_extract (v := .bool z1.2) rfl rfl rfl) ?_
  refine e_alloc Tryz.zeroValue107 rfl rfl rfl rfl ?_
  intro g3
  refine e_st (i := 0) (v := .agg #[.int .i64 z1.1.1, .int .i64 z1.1.2.1, .int .i64 z1.1.2.2]) (new := #[.int .i64 z1.1.1, .int .i64 z1.1.2.1, .int .i64 z1.1.2.2]) rfl Tryz.sizeOf107 rfl rfl rfl rfl (by kernel_rfl) rfl rfl rfl rfl ?_
  refine va rfl rfl rfl (q_assign (v := .bool z1.2) rfl (by kernel_rfl)) ?_
  refine WR.nil ?_
  change WC _ _ _ _ _ _
  refine WC.rs ?_
  refine va rfl rfl rfl (q_move (v := .bool z1.2) rfl (by kernel_rfl)) ?_
  refine va rfl rfl rfl (q_not rfl rfl) ?_
  refine va rfl rfl rfl (q_move (v := .bool (!z1.2)) rfl (by kernel_rfl)) ?_
  refine vg0 rfl rfl rfl rfl rfl (fun hg4 => QV.qo (q_move (v := .slice Apath path.length cpath) rfl (by kernel_rfl))) ?_
  refine vg0 rfl rfl rfl rfl rfl (fun hg5 => QV.qo (q_len_slice rfl Tryz.underlying23 (gu hg5 rfl))) ?_
  refine vg0 rfl rfl rfl rfl rfl (fun hg6 => QV.qo (q_gtr rfl (gu hg6 rfl) rfl)) ?_
  refine va rfl rfl rfl (q_pick rfl rfl (pk_or' (g := (!z1.2)) (y := (decide (1 < ((path.length : Nat) : Int)))))) ?_
  refine WR.nil ?_
  change WC _ _ _ _ _ _
  refine WC.cif h (by kernel_rfl) (fun hb7 h => ?_) (fun hb7 h => ?_)
  · skip
    refine WC.rs ?_
    refine va rfl rfl rfl (q_assign (v := .slice none 0 0) rfl (by kernel_rfl)) ?_
    refine WR.nil ?_
    change WC _ _ _ _ _ _
    refine WC.ret ?_
    intro w hw
    have hw := hw.pad
    obtain rfl := Option.some.inj h
    subst hF
    exact end_e (is := [2, 0]) (by kernel_rfl) hw rfl ⟨rowt_, none, 0, [], rfl, rfl, ht_, (Own.nil u64T _ 67), rfl, trivial⟩
  · skip
    refine WC.skip ?_
    change WC _ _ _ _ _ _
    refine WC.rs ?_
    refine va rfl rfl rfl (q_assign (v := .slice none 0 0) rfl (by kernel_rfl)) ?_
    refine WR.nil ?_
    change WC _ _ _ _ _ _
    refine WC.seq ?_
    refine WC.rs ?_
    refine va rfl rfl rfl (q_move (v := .int .i64 0) rfl (by kernel_rfl)) ?_
    refine WR.nil ?_
    change WC _ _ _ _ _ _
    refine WC.block ?_
    refine WC.forU h (fun (i19 : Nat) (s : (List Int) × OTree) σ w => match s with | (out_10, o15) => ∃ (Γ8 : Gh), ∃ (A11 : Option Addr), ∃ (c12 : Nat), ∃ (row13 : Rowb), ∃ (row16 : Rowb), slots σ [(0, .pointer (some ⟨gt_, 0, none⟩)), (1, .slice Apath path.length cpath), (7, .slice A11 out_10.length c12), (21, .int .i64 ((i19 : Nat) : Int))] ∧ CC F Γ8 [row13, row16] w ∧ Gh.le Γ Γ8 ∧ Own u64T Γ8 67 row13 A11 c12 out_10 ∧ OTree.ob et_ Γ8 gt_ row16 o15 ∧ True) ?_ ?_
    · skip
      intro w hw
      have hw := hw.pad
      exact ⟨Γ, none, 0, [], rowt_, (sl_ (by kernel_rfl)), (hw.only (is := [0, 1]) rfl), (Gh.refl _), (Own.nil u64T _ 67), ht_, trivial⟩
    rintro f18 i19 ⟨out_10, o15⟩ σ w hi20 hlt21 hge22 ⟨Γ8, A11, c12, row13, row16, hsl, hw, hl9, ho14, ho17, -⟩
    refine Wpt.slots hsl ?_
    refine WC.here (C := CC F Γ8 [row13, row16]) ?_ hw
    clear hw hsl
    refine WC.rs ?_
    refine va rfl rfl rfl (q_lss rfl rfl rfl) ?_
    refine WR.nil ?_
    change WC _ _ _ _ _ _
    refine WC.seq ?_
    refine WC.cond (b := (decide (((i19 : Nat) : Int) < 16))) (by kernel_rfl) (fun hb23 => ?_) (fun hb23 => ?_)
    · skip
      have hl24 := ilt hb23
      have h := hlt21 hl24
      refine WC.skip ?_
      change WC _ _ _ _ _ _
      refine WC.seq ?_
      refine WC.block ?_
      refine WC.rs ?_
      refine va rfl rfl rfl (q_move (v := .int .i64 ((i19 : Nat) : Int)) rfl (by kernel_rfl)) ?_
      refine va rfl rfl rfl (q_assign (v := .int .i64 ((i19 : Nat) : Int)) rfl (by kernel_rfl)) ?_
      refine WR.nil ?_
      change WC _ _ _ _ _ _
      refine WC.region ?_
      refine va rfl rfl rfl (q_move (v := .slice A11 out_10.length c12) rfl (by kernel_rfl)) ?_
      refine va rfl rfl rfl (q_move (v := .pointer (some ⟨gt_, 0, none⟩)) rfl (by kernel_rfl)) ?_
      refine va rfl rfl rfl (q_move (v := .slice Apath path.length cpath) rfl (by kernel_rfl)) ?_
      obtain ⟨z25, hz26, h⟩ := bnd h
      refine e_call (is := []) rfl rfl (call_run Tryz.call41 rfl rfl (by kernel_rfl)) rfl (fun w hp => t_slices_Clone_int_int (hpath.mono hl9) hpathc hp hz26) ?_
      rintro Γ27 U29 v30 hl28 ⟨A31, c32, row33, rfl, rfl, hr34, _⟩
      change WR _ _ _ (CC F Γ27 [row33, row13, row16]) _ _ (upd _ 27 (.slice A31 z25.length c32))
      refine va rfl rfl rfl (q_move (v := .int .i64 ((i19 : Nat) : Int)) rfl (by kernel_rfl)) ?_
      refine e_buildSlice (cs := #[.int .i64 ((i19 : Nat) : Int)]) (e := 3) rfl rfl rfl rfl (fun w => by kernel_rfl) ?_
      intro g35
      obtain ⟨hk36, h⟩ := chk_some h
      refine e_append (T := intT) (xs := z25) (ys := [((i19 : Nat) : Int)]) elem_23 (i := 1) rfl rfl rfl rfl rfl rfl rfl hr34 (of_decide_eq_true hk36) (fun w hw => src_one (T := intT) (y := ((i19 : Nat) : Int)) (i := 0) rfl (by exact ⟨rfl, (ctr_lit0 hl24 (by decide))⟩) hw) ?_
      intro row37 A38 c39 ho40
      have hc45 := ho40.capz
      intro w hw; obtain ⟨Γ41, hw, hl42, hr43⟩ := hw.seal (i := 1) rfl; have hs44 := ho40.sl hl42 hr43
      refine WR.here (C := CC F Γ41 [[(g35, .cells #[.int .i64 ((i19 : Nat) : Int)] 3 (0, 0))], [], row13, row16]) ?_ hw
      clear hw
      obtain ⟨hk46, h⟩ := chk_some h
      obtain ⟨z47, hz48, h⟩ := bnd h
      refine e_call (is := [3]) rfl rfl (call_run Tryz.call63 rfl rfl (by kernel_rfl)) rfl (fun w hp => hH (ho17.mono (hl28.trans hl42)) hs44 hc45 (lent_lt hlen (of_decide_eq_true hk46)) hp hz48) ?_
      rintro Γ49 U51 v52 hl50 ⟨row53, rfl, rfl, hr54, hr55, _⟩
      change WR _ _ _ (CC F Γ49 [row53, [(g35, .cells #[.int .i64 ((i19 : Nat) : Int)] 3 (0, 0))], [], row13]) _ _ (upd _ 31 (.int .u64 z47.2))
      refine e_buildSlice (cs := #[.int .u64 z47.2]) (e := 67) rfl rfl rfl rfl (fun w => by kernel_rfl) ?_
      intro g56
      obtain ⟨hk57, h⟩ := chk_some h
      refine e_append (T := u64T) (xs := out_10) (ys := [z47.2]) elem_24 (i := 4) rfl rfl rfl rfl rfl rfl rfl (ho14.mono ((hl28.trans hl42).trans hl50)) (of_decide_eq_true hk57) (fun w hw => src_one (T := u64T) (y := z47.2) (i := 0) rfl (by exact ⟨rfl, hr55⟩) hw) ?_
      intro row58 A59 c60 ho61
      refine va rfl rfl rfl (q_assign (v := .slice A59 (out_10 ++ [z47.2]).length c60) rfl (by kernel_rfl)) ?_
      refine WR.nil ?_
      change WC _ _ _ _ _ _
      refine WC.region ?_
      refine va rfl rfl rfl (q_add_r (r := ((i19 + 1 : Nat) : Int)) rfl rfl rfl (ctr_lit hl24 (by decide))) ?_
      refine va rfl rfl rfl (q_move (v := .int .i64 ((i19 + 1 : Nat) : Int)) rfl (by kernel_rfl)) ?_
      refine WR.nil ?_
      intro w hw
      exact ⟨hl24, ((out_10 ++ [z47.2]), z47.1), h, Γ49, A59, c60, row58, row53, (sl_ (by kernel_rfl)), (hw.only (is := [4, 1]) rfl), (((hl9.trans hl28).trans hl42).trans hl50), ho61, hr54, trivial⟩
    · skip
      have h := hge22 (ige hb23)
      refine WC.exit ?_
      change WC _ _ _ _ _ _
      refine WC.rs ?_
      refine va rfl rfl rfl (q_move (v := .slice A11 out_10.length c12) rfl (by kernel_rfl)) ?_
      refine va rfl rfl rfl (q_assign (v := .slice A11 out_10.length c12) rfl (by kernel_rfl)) ?_
      refine WR.nil ?_
      change WC _ _ _ _ _ _
      refine WC.ret ?_
      intro w hw
      obtain ⟨hk62, h⟩ := chk_some h
      obtain rfl := Option.some.inj h
      subst hF
      exact end_e (is := [1, 0]) (by kernel_rfl) hw rfl ⟨row16, A11, c12, row13, rfl, rfl, ho17, ho14, (ho14.nz (of_decide_eq_true hk62)), trivial⟩
abbrev r_num_PutNum (r : List UInt8) (U : List Rowb) (Γ : Gh) (v : Value) : Prop := ∃ (A0 : Option Addr), ∃ (c0 : Nat), ∃ (row0 : Rowb), v = .slice A0 r.length c0 ∧ U = [row0] ∧ Own byteT Γ 5 row0 A0 c0 r ∧ True
set_option maxRecDepth 100000 in
set_option maxHeartbeats 400000 in
theorem t_num_PutNum {Γ : Gh} {w0 : World} (n : Int) (hn : I64 n) (hp : Pre [] Γ w0) {r : List UInt8} (h : m_num_PutNum n = some r) : Calls Tryz.prog 128 #[.int .i64 n] w0 (Outc Γ [] w0 (r_num_PutNum r)) := by
  refine calls_of (N := 23) (rs := [2]) (args := [.int .i64 n]) Tryz.func128 rfl Tryz.ntmps128 Tryz.results128 rfl ?_
  obtain ⟨F, hF⟩ : ∃ F : Fm, F = ⟨ids [], w0, Γ⟩ := ⟨_, rfl⟩
  refine WC.here (C := CC F Γ []) ?_ (hF ▸ hp.start)
  refine WC.rs ?_
  refine va rfl rfl rfl (q_assign (v := .slice none 0 0) rfl (by kernel_rfl)) ?_
  refine WR.nil ?_
  change WC _ _ _ _ _ _
  refine WC.rs ?_
  refine va rfl rfl rfl (q_assign (v := .slice none 0 0) rfl (by kernel_rfl)) ?_
  refine WR.nil ?_
  change WC _ _ _ _ _ _
  refine WC.rs ?_
  refine va rfl rfl rfl (q_move (v := .int .i64 n) rfl (by kernel_rfl)) ?_
  refine va rfl rfl rfl (q_max rfl rfl rfl) ?_
  refine va rfl rfl rfl (q_conv Tryz.underlying67 Tryz.underlying2 rfl rfl) ?_
  refine va rfl rfl rfl (q_assign (v := .int .u64 (wu64 (max n 0))) rfl (by kernel_rfl)) ?_
  refine WR.nil ?_
  change WC _ _ _ _ _ _
  refine WC.seq ?_
  refine WC.block ?_
  refine WC.loopN h (fun (s : (List UInt8) × Int) σ w => match s with | (b_1, u_6) => ∃ (A2 : Option Addr), ∃ (c3 : Nat), ∃ (row4 : Rowb), slots σ [(3, .slice A2 b_1.length c3), (4, .int .u64 u_6)] ∧ CC F Γ [row4] w ∧ Own byteT Γ 5 row4 A2 c3 b_1 ∧ True) ?_ ?_
  · skip
    intro w hw
    have hw := hw.pad
    exact ⟨none, 0, [], (sl_ (by kernel_rfl)), hw, (Own.nil byteT _ 5), trivial⟩
  rintro f7 ⟨b_1, u_6⟩ σ w h ⟨A2, c3, row4, hsl, hw, ho5, -⟩
  refine Wpt.slots hsl ?_
  refine WC.here (C := CC F Γ [row4]) ?_ hw
  clear hw hsl
  refine WC.seq ?_
  refine WC.rs ?_
  refine va rfl rfl rfl (q_move (v := .int .u64 u_6) rfl (by kernel_rfl)) ?_
  refine va rfl rfl rfl (q_gtr rfl rfl rfl) ?_
  refine WR.nil ?_
  change WC _ _ _ _ _ _
  refine WC.cif h (by kernel_rfl) (fun hb11 h => ?_) (fun hb11 h => ?_)
  · skip
    refine WC.skip ?_
    change WC _ _ _ _ _ _
    refine WC.seq ?_
    refine WC.block ?_
    refine WC.region ?_
    refine va rfl rfl rfl (q_move (v := .slice A2 b_1.length c3) rfl (by kernel_rfl)) ?_
    refine va rfl rfl rfl (q_move (v := .int .u64 u_6) rfl (by kernel_rfl)) ?_
    refine va rfl rfl rfl (q_conv Tryz.underlying5 Tryz.underlying67 rfl rfl) ?_
    refine va rfl rfl rfl (q_or rfl rfl rfl) ?_
    refine e_buildSlice (cs := #[.int .u8 (ior .u8 (wu8 u_6) 128)]) (e := 5) rfl rfl rfl rfl (fun w => by kernel_rfl) ?_
    intro g12
    obtain ⟨hk13, h⟩ := chk_some h
    obtain ⟨hk14, h⟩ := chk_some h
    refine e_append (T := byteT) (xs := b_1) (ys := [(b8 (ior .u8 (wu8 u_6) 128))]) elem_97 (i := 1) rfl rfl rfl rfl rfl rfl rfl ho5 (of_decide_eq_true hk14) (fun w hw => src_one (T := byteT) (y := (b8 (ior .u8 (wu8 u_6) 128))) (i := 0) rfl (by exact (by show [Value.int .u8 (ior .u8 (wu8 u_6) 128)] = [Value.int .u8 _]; rw [b8_val (u8b_of hk13)])) hw) ?_
    intro row15 A16 c17 ho18
    refine va rfl rfl rfl (q_assign (v := .slice A16 (b_1 ++ [(b8 (ior .u8 (wu8 u_6) 128))]).length c17) rfl (by kernel_rfl)) ?_
    refine WR.nil ?_
    change WC _ _ _ _ _ _
    refine WC.region ?_
    refine va rfl rfl rfl (q_move (v := .int .u64 u_6) rfl (by kernel_rfl)) ?_
    refine va rfl rfl rfl (q_shr rfl rfl rfl (by decide)) ?_
    refine va rfl rfl rfl (q_assign (v := .int .u64 (ishr .u64 u_6 7)) rfl (by kernel_rfl)) ?_
    refine WR.nil ?_
    intro w hw
    exact ⟨((b_1 ++ [(b8 (ior .u8 (wu8 u_6) 128))]), (ishr .u64 u_6 7)), h, A16, c17, row15, (sl_ (by kernel_rfl)), (hw.only (is := [1]) rfl), ho18, trivial⟩
  · skip
    refine WC.exit ?_
    change WC _ _ _ _ _ _
    refine WC.rs ?_
    refine va rfl rfl rfl (q_move (v := .slice A2 b_1.length c3) rfl (by kernel_rfl)) ?_
    refine va rfl rfl rfl (q_move (v := .int .u64 u_6) rfl (by kernel_rfl)) ?_
    refine va rfl rfl rfl (q_conv Tryz.underlying5 Tryz.underlying67 rfl rfl) ?_
    refine e_buildSlice (cs := #[.int .u8 (wu8 u_6)]) (e := 5) rfl rfl rfl rfl (fun w => by kernel_rfl) ?_
    intro g19
    obtain ⟨hk20, h⟩ := chk_some h
    refine e_append (T := byteT) (xs := b_1) (ys := [(b8 (wu8 u_6))]) elem_97 (i := 1) rfl rfl rfl rfl rfl rfl rfl ho5 (of_decide_eq_true hk20) (fun w hw => src_one (T := byteT) (y := (b8 (wu8 u_6))) (i := 0) rfl (by exact (by show [Value.int .u8 (wu8 u_6)] = [Value.int .u8 _]; rw [b8_val (wu8_r _)])) hw) ?_
    intro row21 A22 c23 ho24
    refine va rfl rfl rfl (q_assign (v := .slice A22 (b_1 ++ [(b8 (wu8 u_6))]).length c23) rfl (by kernel_rfl)) ?_
    refine WR.nil ?_
    change WC _ _ _ _ _ _
    refine WC.ret ?_
    intro w hw
    obtain rfl := Option.some.inj h
    subst hF
    exact end_e (is := [1]) (by kernel_rfl) hw rfl ⟨A22, c23, row21, rfl, rfl, ho24, trivial⟩
abbrev r_num_PutText (r : List UInt8) (U : List Rowb) (Γ : Gh) (v : Value) : Prop := ∃ (A0 : Option Addr), ∃ (c0 : Nat), ∃ (row0 : Rowb), v = .slice A0 r.length c0 ∧ U = [row0] ∧ Own byteT Γ 5 row0 A0 c0 r ∧ True
set_option maxRecDepth 100000 in
set_option maxHeartbeats 400000 in
theorem t_num_PutText {Γ : Gh} {w0 : World} (s_ : ByteArray) (hs_ : s_.size ≤ lim) (hp : Pre [] Γ w0) {r : List UInt8} (h : m_num_PutText s_ = some r) : Calls Tryz.prog 129 #[.string s_] w0 (Outc Γ [] w0 (r_num_PutText r)) := by
  refine calls_of (N := 8) (rs := [2]) (args := [.string s_]) Tryz.func129 rfl Tryz.ntmps129 Tryz.results129 rfl ?_
  obtain ⟨F, hF⟩ : ∃ F : Fm, F = ⟨ids [], w0, Γ⟩ := ⟨_, rfl⟩
  refine WC.here (C := CC F Γ []) ?_ (hF ▸ hp.start)
  refine WC.rs ?_
  refine va rfl rfl rfl (q_assign (v := .slice none 0 0) rfl (by kernel_rfl)) ?_
  refine WR.nil ?_
  change WC _ _ _ _ _ _
  refine WC.rs ?_
  refine va rfl rfl rfl (q_move (v := .string s_) rfl (by kernel_rfl)) ?_
  refine va rfl rfl rfl (q_len_str rfl Tryz.underlying9 rfl) ?_
  obtain ⟨z1, hz2, h⟩ := bnd h
  refine e_call (is := []) rfl rfl (call_run Tryz.call128 rfl rfl (by kernel_rfl)) rfl (fun w hp => t_num_PutNum ((s_.size : Nat) : Int) (len_r hs_) hp hz2) ?_
  rintro Γ3 U5 v6 hl4 ⟨A7, c8, row9, rfl, rfl, hr10, _⟩
  change WR _ _ _ (CC F Γ3 [row9]) _ _ (upd _ 5 (.slice A7 z1.length c8))
  refine va rfl rfl rfl (q_move (v := .string s_) rfl (by kernel_rfl)) ?_
  obtain ⟨hk11, h⟩ := chk_some h
  refine e_append_str (xs := z1) (s := s_) (ti := Tryz.t5) Tryz.underlying97 Tryz.underlying9 (by kernel_rfl) (by kernel_rfl) (by kernel_rfl) (by kernel_rfl) (i := 0) rfl rfl rfl rfl rfl rfl rfl hr10 (of_decide_eq_true hk11) ?_
  intro row12 A13 c14 ho15
  refine va rfl rfl rfl (q_assign (v := .slice A13 (z1 ++ s_.data.toList).length c14) rfl (by kernel_rfl)) ?_
  refine WR.nil ?_
  change WC _ _ _ _ _ _
  refine WC.ret ?_
  intro w hw
  obtain rfl := Option.some.inj h
  subst hF
  exact end_e (is := [0]) (by kernel_rfl) hw rfl ⟨A13, c14, row12, rfl, rfl, ho15, trivial⟩
set_option maxRecDepth 100000 in
set_option maxHeartbeats 400000 in
theorem t_vers_Mark {Γ : Gh} {w0 : World} (key : ByteArray) (hkey : key.size ≤ lim) {Al : Option Addr} {cl : Nat} {l : List Ver} (hl : Sl verT Γ Al l) (hlc : l.length ≤ cl) (hs : Sat Γ w0) {r : Int} (h : m_vers_Mark key l = some r) : Calls Tryz.prog 110 #[.string key, .slice Al l.length cl] w0 (fun e w' => e = .returned (.int .u64 r) ∧ Fr no w0 w') := by
  refine calls_of (N := 30) (rs := [4]) (args := [.string key, .slice Al l.length cl]) Tryz.func110 rfl Tryz.ntmps110 Tryz.results110 rfl ?_
  obtain ⟨F, hF⟩ : ∃ F : Fm, F = ⟨no, w0, Γ⟩ := ⟨_, rfl⟩
  refine WC.here (C := CC F Γ []) ?_ (hF ▸ Cur.start0 hs)
  refine WC.rs ?_
  refine va rfl rfl rfl (q_assign (v := .int .u64 0) rfl (by kernel_rfl)) ?_
  refine WR.nil ?_
  change WC _ _ _ _ _ _
  refine WC.rs ?_
  refine va rfl rfl rfl (q_move (v := .string key) rfl (by kernel_rfl)) ?_
  obtain ⟨z1, hz2, h⟩ := bnd h
  refine e_call (is := []) rfl rfl (call_run Tryz.call129 rfl rfl (by kernel_rfl)) rfl (fun w hp => t_num_PutText key hkey hp hz2) ?_
  rintro Γ3 U5 v6 hl4 ⟨A7, c8, row9, rfl, rfl, hr10, _⟩
  change WR _ _ _ (CC F Γ3 [row9]) _ _ (upd _ 9 (.slice A7 z1.length c8))
  refine va rfl rfl rfl (q_assign (v := .slice A7 z1.length c8) rfl (by kernel_rfl)) ?_
  refine WR.nil ?_
  change WC _ _ _ _ _ _
  refine WC.seq ?_
  refine WC.rs ?_
  refine va rfl rfl rfl (q_move (v := .slice Al l.length cl) rfl (by kernel_rfl)) ?_
  refine va rfl rfl rfl (q_len_slice rfl Tryz.underlying48 rfl) ?_
  refine va rfl rfl rfl (q_move (v := .int .i64 0) rfl (by kernel_rfl)) ?_
  refine WR.nil ?_
  change WC _ _ _ _ _ _
  refine WC.block ?_
  refine WC.forI h (fun (i19 : Nat) (b_13 : List UInt8) σ w => ∃ (Γ11 : Gh), ∃ (A14 : Option Addr), ∃ (c15 : Nat), ∃ (row16 : Rowb), slots σ [(5, .slice A14 b_13.length c15), (10, .slice Al l.length cl), (11, .int .i64 ((l.length : Nat) : Int)), (12, .int .i64 ((i19 : Nat) : Int))] ∧ CC F Γ11 [row16] w ∧ Gh.le Γ3 Γ11 ∧ Own byteT Γ11 5 row16 A14 c15 b_13 ∧ True) ?_ ?_
  · skip
    intro w hw
    exact ⟨Γ3, A7, c8, row9, (sl_ (by kernel_rfl)), hw, (Gh.refl _), hr10, trivial⟩
  rintro f18 i19 b_13 σ w hi20 hlt21 hge22 ⟨Γ11, A14, c15, row16, hsl, hw, hl12, ho17, -⟩
  refine Wpt.slots hsl ?_
  refine WC.here (C := CC F Γ11 [row16]) ?_ hw
  clear hw hsl
  refine WC.rs ?_
  refine va rfl rfl rfl (q_lss rfl rfl rfl) ?_
  refine WR.nil ?_
  change WC _ _ _ _ _ _
  refine WC.seq ?_
  refine WC.cond (b := (decide (((i19 : Nat) : Int) < ((l.length : Nat) : Int)))) (by kernel_rfl) (fun hb23 => ?_) (fun hb23 => ?_)
  · skip
    have hl24 := ilt hb23
    have h := hlt21 hl24
    refine WC.skip ?_
    change WC _ _ _ _ _ _
    refine WC.seq ?_
    refine WC.block ?_
    refine WC.rs ?_
    refine va rfl rfl rfl (q_ixn (i := i19) Tryz.underlying48 Tryz.sizeOf57 rfl rfl rfl hl24 ((hl.mono (hl4.trans hl12)).some_ hl24)) ?_
    obtain ⟨A25, c26, hx27⟩ := (hl.mono (hl4.trans hl12)).verT_at i19
    refine va rfl rfl rfl (q_lda (c := 0) (vs := [.int .i64 (gt l i19).dot.s, .int .i64 (gt l i19).dot.n, .slice A25 ((gt l i19).past).length c26, .bool (gt l i19).gone, .string (gt l i19).val]) (hx27 hl24).2 rfl Tryz.isAgg57 Tryz.sizeOf57 rfl rfl rfl) ?_
    refine e_alloc Tryz.zeroValue57 rfl rfl rfl rfl ?_
    intro g28
    refine e_st (i := 0) (v := .agg #[.int .i64 (gt l i19).dot.s, .int .i64 (gt l i19).dot.n, .slice A25 ((gt l i19).past).length c26, .bool (gt l i19).gone, .string (gt l i19).val]) (new := #[.int .i64 (gt l i19).dot.s, .int .i64 (gt l i19).dot.n, .slice A25 ((gt l i19).past).length c26, .bool (gt l i19).gone, .string (gt l i19).val]) rfl Tryz.sizeOf57 rfl rfl rfl rfl (by kernel_rfl) rfl rfl rfl rfl ?_
    refine WR.nil ?_
    change WC _ _ _ _ _ _
    intro w hw; have h029 := hw.le
    refine WC.here (C := CC F Γ11 [[(g28, .cells #[.int .i64 (gt l i19).dot.s, .int .i64 (gt l i19).dot.n, .slice A25 ((gt l i19).past).length c26, .bool (gt l i19).gone, .string (gt l i19).val] 57 (0, 0))], row16]) ?_ hw; clear hw
    refine WC.held (CC F Γ11 [[(g28, .cells #[.int .i64 (gt l i19).dot.s, .int .i64 (gt l i19).dot.n, .slice A25 ((gt l i19).past).length c26, .bool (gt l i19).gone, .string (gt l i19).val] 57 (0, 0))]]) (by kernel_rfl) (fun w hw => hw.drawn _) ?_
    change WH _ _ _ _ (CC F Γ11 [[(g28, .cells #[.int .i64 (gt l i19).dot.s, .int .i64 (gt l i19).dot.n, .slice A25 ((gt l i19).past).length c26, .bool (gt l i19).gone, .string (gt l i19).val] 57 (0, 0))], row16]) _ 12 #[false, false, false, false, false, false, false, false, false, false, false, false] _
    refine ht (i := 0) rfl (by kernel_rfl) rfl rfl rfl (fun w hw => hw.back (Gh.refl _) h029 (.cons_cons _ (.cons _ .slnil))) (q_move (v := .slice A14 b_13.length c15) rfl (by kernel_rfl)) ?_
    refine ht (i := 1) rfl (by kernel_rfl) rfl rfl rfl (fun w hw => hw.back (Gh.refl _) h029 (.cons_cons _ (.cons _ .slnil))) (q_fl 0 fld_57_0 rfl rfl rfl) ?_
    refine ht (i := 2) rfl (by kernel_rfl) rfl rfl rfl (fun w hw => hw.back (Gh.refl _) h029 (.cons_cons _ (.cons _ .slnil))) (q_fl 0 fld_54_0 rfl rfl rfl) ?_
    refine ht (i := 3) rfl (by kernel_rfl) rfl rfl rfl (fun w hw => hw.back (Gh.refl _) h029 (.cons_cons _ (.cons _ .slnil))) (q_ldl (i := 0) (v := .int .i64 (gt l i19).dot.s) rfl rfl Tryz.isAgg3 rfl rfl) ?_
    refine ht (i := 6) rfl (by kernel_rfl) rfl rfl rfl (fun w hw => hw.back (Gh.refl _) h029 (.cons_cons _ (.cons _ .slnil))) (q_fl 0 fld_57_0 rfl rfl rfl) ?_
    refine ht (i := 7) rfl (by kernel_rfl) rfl rfl rfl (fun w hw => hw.back (Gh.refl _) h029 (.cons_cons _ (.cons _ .slnil))) (q_fl 1 fld_54_1 rfl rfl rfl) ?_
    refine ht (i := 8) rfl (by kernel_rfl) rfl rfl rfl (fun w hw => hw.back (Gh.refl _) h029 (.cons_cons _ (.cons _ .slnil))) (q_ldl (i := 0) (v := .int .i64 (gt l i19).dot.n) rfl rfl Tryz.isAgg2 rfl rfl) ?_
    refine WH.lone (i := 4) (by kernel_rfl) rfl ?_
    obtain ⟨z30, hz31, h⟩ := bnd h
    refine e_call (is := []) rfl rfl (call_run Tryz.call128 rfl rfl (by kernel_rfl)) rfl (fun w hp => t_num_PutNum ((gt l i19).dot.s) (hx27 hl24).1.1 hp hz31) ?_
    rintro Γ32 U34 v35 hl33 ⟨A36, c37, row38, rfl, rfl, hr39, _⟩
    change WR _ _ _ (CC F Γ32 [row38, [(g28, .cells #[.int .i64 (gt l i19).dot.s, .int .i64 (gt l i19).dot.n, .slice A25 ((gt l i19).past).length c26, .bool (gt l i19).gone, .string (gt l i19).val] 57 (0, 0))], row16]) _ _ (upd _ 20 (.slice A36 z30.length c37))
    refine WR.nil ?_
    refine WH.next (fun w hw => hw.back hl33 h029 (.cons _ (.cons_cons _ (.cons _ .slnil)))) ?_
    refine WH.lone (i := 5) (by kernel_rfl) rfl ?_
    obtain ⟨hk40, h⟩ := chk_some h
    refine e_append (T := byteT) (xs := b_13) (ys := z30) elem_97 (i := 2) rfl rfl rfl rfl rfl rfl rfl (ho17.mono hl33) (of_decide_eq_true hk40) (fun w hw => src_own (i := 0) rfl hr39 hw) ?_
    intro row41 A42 c43 ho44
    refine WR.nil ?_
    refine WH.next (fun w hw => hw.back hl33 h029 (.cons _ (.cons_cons _ (.cons _ .slnil)))) ?_
    refine WH.lone (i := 9) (by kernel_rfl) rfl ?_
    obtain ⟨z45, hz46, h⟩ := bnd h
    refine e_call (is := []) rfl rfl (call_run Tryz.call128 rfl rfl (by kernel_rfl)) rfl (fun w hp => t_num_PutNum ((gt l i19).dot.n) (hx27 hl24).1.2.1 hp hz46) ?_
    rintro Γ47 U49 v50 hl48 ⟨A51, c52, row53, rfl, rfl, hr54, _⟩
    change WR _ _ _ (CC F Γ47 [row53, row38, [(g28, .cells #[.int .i64 (gt l i19).dot.s, .int .i64 (gt l i19).dot.n, .slice A25 ((gt l i19).past).length c26, .bool (gt l i19).gone, .string (gt l i19).val] 57 (0, 0))], row41]) _ _ (upd _ 25 (.slice A51 z45.length c52))
    refine WR.nil ?_
    refine WH.next (fun w hw => hw.back (hl33.trans hl48) h029 (.cons _ (.cons _ (.cons_cons _ (.cons _ .slnil))))) ?_
    refine WH.lone (i := 10) (by kernel_rfl) rfl ?_
    obtain ⟨hk55, h⟩ := chk_some h
    refine e_append (T := byteT) (xs := (b_13 ++ z30)) (ys := z45) elem_97 (i := 3) rfl rfl rfl rfl rfl rfl rfl (ho44.mono hl48) (of_decide_eq_true hk55) (fun w hw => src_own (i := 0) rfl hr54 hw) ?_
    intro row56 A57 c58 ho59
    refine WR.nil ?_
    refine WH.next (fun w hw => hw.back (hl33.trans hl48) h029 (.cons _ (.cons _ (.cons_cons _ (.cons _ .slnil))))) ?_
    refine ht (i := 11) rfl (by kernel_rfl) rfl rfl rfl (fun w hw => hw.back (hl33.trans hl48) h029 (.cons _ (.cons _ (.cons_cons _ (.cons _ .slnil))))) (q_assign (v := .slice A57 ((b_13 ++ z30) ++ z45).length c58) rfl (by kernel_rfl)) ?_
    refine WH.done (by kernel_rfl) ?_
    change WC _ _ _ _ _ _
    refine WC.region ?_
    refine va rfl rfl rfl (q_add_r (r := ((i19 + 1 : Nat) : Int)) rfl rfl rfl (ctr_len hl24 (hl.mono (hl4.trans hl12)).le)) ?_
    refine va rfl rfl rfl (q_move (v := .int .i64 ((i19 + 1 : Nat) : Int)) rfl (by kernel_rfl)) ?_
    refine WR.nil ?_
    intro w hw
    exact ⟨hl24, ((b_13 ++ z30) ++ z45), h, Γ47, A57, c58, row56, (sl_ (by kernel_rfl)), (hw.only (is := [3]) rfl), ((hl12.trans hl33).trans hl48), ho59, trivial⟩
  · skip
    have h := hge22 (ige hb23)
    refine WC.exit ?_
    change WC _ _ _ _ _ _
    refine WC.rs ?_
    refine va rfl rfl rfl (q_move (v := .slice A14 b_13.length c15) rfl (by kernel_rfl)) ?_
    obtain ⟨z60, hz61, h⟩ := bnd h
    refine vc rfl rfl rfl (q_call (call_run Tryz.call106 rfl rfl (by kernel_rfl)) (fun w hw => t_num_Hash (Γ := Gh.all w) (ho17.sl hw.sat.le_all (hw.ra 0 rfl)) ho17.capz (Sat.all w) hz61)) ?_
    refine va rfl rfl rfl (q_assign (v := .int .u64 z60) rfl (by kernel_rfl)) ?_
    refine WR.nil ?_
    change WC _ _ _ _ _ _
    refine WC.ret ?_
    intro w hw
    obtain rfl := Option.some.inj h
    subst hF
    exact ⟨by kernel_rfl, hw.fr⟩
abbrev r_tree_halves (r : List UInt8) (U : List Rowb) (Γ : Gh) (v : Value) : Prop := ∃ (A0 : Option Addr), ∃ (c0 : Nat), ∃ (row0 : Rowb), v = .slice A0 r.length c0 ∧ U = [row0] ∧ Own byteT Γ 5 row0 A0 c0 r ∧ True
set_option maxRecDepth 100000 in
set_option maxHeartbeats 400000 in
theorem t_tree_halves {Γ : Gh} {w0 : World} {Ab : Option Addr} {cb : Nat} {rowb : Rowb} {b : List UInt8} (hb : Own byteT Γ 5 rowb Ab cb b) (h_ : Int) (hh_ : U64 h_) (hp : Pre [rowb] Γ w0) {r : List UInt8} (h : m_tree_halves b h_ = some r) : Calls Tryz.prog 109 #[.slice Ab b.length cb, .int .u64 h_] w0 (Outc Γ [rowb] w0 (r_tree_halves r)) := by
  refine calls_of (N := 16) (rs := [4]) (args := [.slice Ab b.length cb, .int .u64 h_]) Tryz.func109 rfl Tryz.ntmps109 Tryz.results109 rfl ?_
  obtain ⟨F, hF⟩ : ∃ F : Fm, F = ⟨ids [rowb], w0, Γ⟩ := ⟨_, rfl⟩
  refine WC.here (C := CC F Γ [rowb]) ?_ (hF ▸ hp.start)
  refine WC.rs ?_
  refine va rfl rfl rfl (q_assign (v := .slice none 0 0) rfl (by kernel_rfl)) ?_
  refine WR.nil ?_
  change WC _ _ _ _ _ _
  refine WC.rs ?_
  refine va rfl rfl rfl (q_move (v := .slice Ab b.length cb) rfl (by kernel_rfl)) ?_
  refine va rfl rfl rfl (q_move (v := .int .u64 h_) rfl (by kernel_rfl)) ?_
  refine va rfl rfl rfl (q_shr rfl rfl rfl (by decide)) ?_
  refine va rfl rfl rfl (q_conv Tryz.underlying2 Tryz.underlying67 rfl rfl) ?_
  obtain ⟨z1, hz2, h⟩ := bnd h
  refine e_call (is := []) rfl rfl (call_run Tryz.call128 rfl rfl (by kernel_rfl)) rfl (fun w hp => t_num_PutNum (w64 (ishr .u64 h_ 32)) (w64_r _) hp hz2) ?_
  rintro Γ3 U5 v6 hl4 ⟨A7, c8, row9, rfl, rfl, hr10, _⟩
  change WR _ _ _ (CC F Γ3 [row9, rowb]) _ _ (upd _ 9 (.slice A7 z1.length c8))
  obtain ⟨hk11, h⟩ := chk_some h
  refine e_append (T := byteT) (xs := b) (ys := z1) elem_97 (i := 1) rfl rfl rfl rfl rfl rfl rfl (hb.mono hl4) (of_decide_eq_true hk11) (fun w hw => src_own (i := 0) rfl hr10 hw) ?_
  intro row12 A13 c14 ho15
  refine va rfl rfl rfl (q_move (v := .int .u64 h_) rfl (by kernel_rfl)) ?_
  refine va rfl rfl rfl (q_and rfl rfl rfl) ?_
  refine va rfl rfl rfl (q_conv Tryz.underlying2 Tryz.underlying67 rfl rfl) ?_
  obtain ⟨z16, hz17, h⟩ := bnd h
  refine e_call (is := []) rfl rfl (call_run Tryz.call128 rfl rfl (by kernel_rfl)) rfl (fun w hp => t_num_PutNum (w64 (iand .u64 h_ 4294967295)) (w64_r _) hp hz17) ?_
  rintro Γ18 U20 v21 hl19 ⟨A22, c23, row24, rfl, rfl, hr25, _⟩
  change WR _ _ _ (CC F Γ18 [row24, row9, row12]) _ _ (upd _ 14 (.slice A22 z16.length c23))
  obtain ⟨hk26, h⟩ := chk_some h
  refine e_append (T := byteT) (xs := (b ++ z1)) (ys := z16) elem_97 (i := 2) rfl rfl rfl rfl rfl rfl rfl (ho15.mono hl19) (of_decide_eq_true hk26) (fun w hw => src_own (i := 0) rfl hr25 hw) ?_
  intro row27 A28 c29 ho30
  refine va rfl rfl rfl (q_assign (v := .slice A28 ((b ++ z1) ++ z16).length c29) rfl (by kernel_rfl)) ?_
  refine WR.nil ?_
  change WC _ _ _ _ _ _
  refine WC.ret ?_
  intro w hw
  obtain rfl := Option.some.inj h
  subst hF
  exact end_e (is := [2]) (by kernel_rfl) hw rfl ⟨A28, c29, row27, rfl, rfl, ho30, trivial⟩
abbrev r_tree_Tree_reckon (gt_ : Nat) (et_ : TG) (r : OTree × Int) (U : List Rowb) (Γ : Gh) (v : Value) : Prop := ∃ (rowt_' : Rowb), v = .int .u64 r.2 ∧ U = [rowt_'] ∧ OTree.ob et_ Γ gt_ rowt_' r.1 ∧ U64 r.2 ∧ True
set_option maxRecDepth 100000 in
set_option maxHeartbeats 400000 in
theorem t_tree_Tree_reckon {Γ : Gh} {w0 : World} {H : OTree → List Int → Option (OTree × Int)} (hH : HashC H) {gt_ : Nat} {et_ : TG} {rowt_ : Rowb} {t_ : OTree} (ht_ : OTree.ob et_ Γ gt_ rowt_ t_) {Apath : Option Addr} {cpath : Nat} {path : List Int} (hpath : Sl intT Γ Apath path) (hpathc : path.length ≤ cpath) (hlen : ∀ p ∈ et_.2, p.1.1 ≤ path.length) (hp : Pre [rowt_] Γ w0) {r : OTree × Int} (h : m_tree_Tree_reckon H t_ path = some r) : Calls Tryz.prog 90 #[.pointer (some ⟨gt_, 0, none⟩), .slice Apath path.length cpath] w0 (Outc Γ [rowt_] w0 (r_tree_Tree_reckon gt_ et_ r)) := by
  refine calls_of (N := 51) (rs := [4]) (args := [.pointer (some ⟨gt_, 0, none⟩), .slice Apath path.length cpath]) Tryz.func90 rfl Tryz.ntmps90 Tryz.results90 rfl ?_
  obtain ⟨F, hF⟩ : ∃ F : Fm, F = ⟨ids [rowt_], w0, Γ⟩ := ⟨_, rfl⟩
  refine WC.here (C := CC F Γ [rowt_]) ?_ (hF ▸ hp.start)
  refine WC.rs ?_
  refine va rfl rfl rfl (q_assign (v := .int .u64 0) rfl (by kernel_rfl)) ?_
  refine WR.nil ?_
  change WC _ _ _ _ _ _
  refine WC.rs ?_
  refine va rfl rfl rfl (q_assign (v := .slice none 0 0) rfl (by kernel_rfl)) ?_
  refine WR.nil ?_
  change WC _ _ _ _ _ _
  refine WC.rs ?_
  refine va rfl rfl rfl (q_assign (v := .bool false) rfl (by kernel_rfl)) ?_
  refine WR.nil ?_
  change WC _ _ _ _ _ _
  refine WC.cut (fun σ w => ∃ (b_3 : List UInt8), ∃ (some_8 : Bool), ∃ (o9 : OTree), ∃ (Γ1 : Gh), ∃ (A4 : Option Addr), ∃ (c5 : Nat), ∃ (row6 : Rowb), ∃ (row10 : Rowb), m_tree_Tree_reckon_j1 b_3 some_8 o9 = some r ∧ slots σ [(5, .slice A4 b_3.length c5), (6, .bool some_8)] ∧ CC F Γ1 [row6, row10] w ∧ Gh.le Γ Γ1 ∧ Own byteT Γ1 5 row6 A4 c5 b_3 ∧ OTree.ob et_ Γ1 gt_ row10 o9 ∧ True) ?_ ?_
  · skip
    refine WC.rs ?_
    refine va rfl rfl rfl (q_move (v := .slice Apath path.length cpath) rfl (by kernel_rfl)) ?_
    refine va rfl rfl rfl (q_len_slice rfl Tryz.underlying23 rfl) ?_
    refine va rfl rfl rfl (q_eql rfl rfl rfl) ?_
    refine WR.nil ?_
    change WC _ _ _ _ _ _
    refine WC.cif h (by kernel_rfl) (fun hb12 h => ?_) (fun hb12 h => ?_)
    · skip
      refine WC.rs ?_
      refine va rfl rfl rfl (q_move (v := .pointer (some ⟨gt_, 0, none⟩)) rfl (by kernel_rfl)) ?_
      refine va rfl rfl rfl (q_move (v := .slice Apath path.length cpath) rfl (by kernel_rfl)) ?_
      obtain ⟨z13, hz14, h⟩ := bnd h
      refine e_call (is := [0]) rfl rfl (call_run Tryz.call42 rfl rfl (by kernel_rfl)) rfl (fun w hp => t_tree_Tree_Recs ht_ hpath hpathc hp hz14) ?_
      rintro Γ15 U17 v18 hl16 ⟨A19, c20, row21, rfl, rfl, hr22, _⟩
      change WR _ _ _ (CC F Γ15 [rowt_, row21]) _ _ (upd _ 16 (.slice A19 z13.length c20))
      refine va rfl rfl rfl (q_len_slice rfl Tryz.underlying22 rfl) ?_
      refine va rfl rfl rfl (q_move (v := .int .i64 0) rfl (by kernel_rfl)) ?_
      refine WR.nil ?_
      change WC _ _ _ _ _ _
      refine WC.block ?_
      refine WC.forI h (fun (i32 : Nat) (s : (List UInt8) × Bool) σ w => match s with | (b_25, some_30) => ∃ (Γ23 : Gh), ∃ (A26 : Option Addr), ∃ (c27 : Nat), ∃ (row28 : Rowb), slots σ [(5, .slice A26 b_25.length c27), (6, .bool some_30), (16, .slice A19 z13.length c20), (17, .int .i64 ((z13.length : Nat) : Int)), (18, .int .i64 ((i32 : Nat) : Int))] ∧ CC F Γ23 [row28, rowt_, row21] w ∧ Gh.le Γ15 Γ23 ∧ Own byteT Γ23 5 row28 A26 c27 b_25 ∧ True) ?_ ?_
      · skip
        intro w hw
        have hw := hw.pad
        exact ⟨Γ15, none, 0, [], (sl_ (by kernel_rfl)), hw, (Gh.refl _), (Own.nil byteT _ 5), trivial⟩
      rintro f31 i32 ⟨b_25, some_30⟩ σ w hi33 hlt34 hge35 ⟨Γ23, A26, c27, row28, hsl, hw, hl24, ho29, -⟩
      refine Wpt.slots hsl ?_
      refine WC.here (C := CC F Γ23 [row28, rowt_, row21]) ?_ hw
      clear hw hsl
      refine WC.rs ?_
      refine va rfl rfl rfl (q_lss rfl rfl rfl) ?_
      refine WR.nil ?_
      change WC _ _ _ _ _ _
      refine WC.seq ?_
      refine WC.cond (b := (decide (((i32 : Nat) : Int) < ((z13.length : Nat) : Int)))) (by kernel_rfl) (fun hb36 => ?_) (fun hb36 => ?_)
      · skip
        have hl37 := ilt hb36
        have h := hlt34 hl37
        refine WC.skip ?_
        change WC _ _ _ _ _ _
        refine WC.seq ?_
        refine WC.block ?_
        refine WC.rs ?_
        refine va rfl rfl rfl (q_ixn (i := i32) Tryz.underlying22 Tryz.sizeOf51 rfl rfl rfl hl37 ((hr22.mono hl24).some_ hl37)) ?_
        obtain ⟨A38, c39, hx40⟩ := (hr22.mono hl24).recT_at i32
        refine va rfl rfl rfl (q_ldoa (c := 0) (vs := [.string (gt z13 i32).key, .slice A38 ((gt z13 i32).vers).length c39]) (i := 2) rfl (hx40 hl37).2 rfl Tryz.isAgg51 Tryz.sizeOf51 rfl rfl) ?_
        refine e_alloc Tryz.zeroValue51 rfl rfl rfl rfl ?_
        intro g41
        refine e_st (i := 0) (v := .agg #[.string (gt z13 i32).key, .slice A38 ((gt z13 i32).vers).length c39]) (new := #[.string (gt z13 i32).key, .slice A38 ((gt z13 i32).vers).length c39]) rfl Tryz.sizeOf51 rfl rfl rfl rfl (by kernel_rfl) rfl rfl rfl rfl ?_
        refine WR.nil ?_
        change WC _ _ _ _ _ _
        refine WC.rs ?_
        refine va rfl rfl rfl (q_move (v := .slice A26 b_25.length c27) rfl (by kernel_rfl)) ?_
        refine va rfl rfl rfl (q_fl 0 fld_51_0 rfl rfl rfl) ?_
        refine va rfl rfl rfl (q_ldl (i := 0) (v := .string (gt z13 i32).key) rfl rfl Tryz.isAgg9 rfl rfl) ?_
        refine va rfl rfl rfl (q_fl 1 fld_51_1 rfl rfl rfl) ?_
        refine va rfl rfl rfl (q_ldl (i := 0) (v := .slice A38 ((gt z13 i32).vers).length c39) rfl rfl Tryz.isAgg48 rfl rfl) ?_
        obtain ⟨z42, hz43, h⟩ := bnd h
        refine vc rfl rfl rfl (q_call (call_run Tryz.call110 rfl rfl (by kernel_rfl)) (fun w hw => t_vers_Mark (Γ := Gh.all w) ((gt z13 i32).key) (hx40 hl37).1.1 ((hx40 hl37).1.2.2.mono hw.sat.le_all) (hx40 hl37).1.2.1 (Sat.all w) hz43)) ?_
        obtain ⟨hk44, h⟩ := chk_some h
        obtain ⟨z45, hz46, h⟩ := bnd h
        refine e_call (is := [1]) rfl rfl (call_run Tryz.call109 rfl rfl (by kernel_rfl)) rfl (fun w hp => t_tree_halves ho29 z42 (u64b_of hk44) hp hz46) ?_
        rintro Γ47 U49 v50 hl48 ⟨A51, c52, row53, rfl, rfl, hr54, _⟩
        change WR _ _ _ (CC F Γ47 [row53, [(g41, .cells #[.string (gt z13 i32).key, .slice A38 ((gt z13 i32).vers).length c39] 51 (0, 0))], rowt_, row21]) _ _ (upd _ 28 (.slice A51 z45.length c52))
        refine va rfl rfl rfl (q_assign (v := .slice A51 z45.length c52) rfl (by kernel_rfl)) ?_
        refine WR.nil ?_
        change WC _ _ _ _ _ _
        refine WC.region ?_
        refine va rfl rfl rfl (q_assign (v := .bool true) rfl (by kernel_rfl)) ?_
        refine WR.nil ?_
        change WC _ _ _ _ _ _
        refine WC.region ?_
        refine va rfl rfl rfl (q_add_r (r := ((i32 + 1 : Nat) : Int)) rfl rfl rfl (ctr_len hl37 (hr22.mono hl24).le)) ?_
        refine va rfl rfl rfl (q_move (v := .int .i64 ((i32 + 1 : Nat) : Int)) rfl (by kernel_rfl)) ?_
        refine WR.nil ?_
        intro w hw
        exact ⟨hl37, (z45, true), h, Γ47, A51, c52, row53, (sl_ (by kernel_rfl)), (hw.only (is := [0, 1, 1]) rfl), (hl24.trans hl48), hr54, trivial⟩
      · skip
        have h := hge35 (ige hb36)
        refine WC.exit ?_
        intro w hw
        exact ⟨b_25, some_30, t_, Γ23, A26, c27, row28, rowt_, h, (sl_ (by kernel_rfl)), (hw.only (is := [0, 0]) rfl), (hl16.trans hl24), ho29, (ht_.mono (hl16.trans hl24)), trivial⟩
    · skip
      refine WC.rs ?_
      refine va rfl rfl rfl (q_move (v := .pointer (some ⟨gt_, 0, none⟩)) rfl (by kernel_rfl)) ?_
      refine va rfl rfl rfl (q_move (v := .slice Apath path.length cpath) rfl (by kernel_rfl)) ?_
      obtain ⟨z55, hz56, h⟩ := bnd h
      refine e_call (is := [0]) rfl rfl (call_run Tryz.call42 rfl rfl (by kernel_rfl)) rfl (fun w hp => t_tree_Tree_Recs ht_ hpath hpathc hp hz56) ?_
      rintro Γ57 U59 v60 hl58 ⟨A61, c62, row63, rfl, rfl, hr64, _⟩
      change WR _ _ _ (CC F Γ57 [rowt_, row63]) _ _ (upd _ 32 (.slice A61 z55.length c62))
      refine va rfl rfl rfl (q_len_slice rfl Tryz.underlying22 rfl) ?_
      refine va rfl rfl rfl (q_gtr rfl rfl rfl) ?_
      refine va rfl rfl rfl (q_assign (v := .bool (decide (0 < ((z55.length : Nat) : Int)))) rfl (by kernel_rfl)) ?_
      refine WR.nil ?_
      change WC _ _ _ _ _ _
      refine WC.rs ?_
      refine va rfl rfl rfl (q_move (v := .pointer (some ⟨gt_, 0, none⟩)) rfl (by kernel_rfl)) ?_
      refine va rfl rfl rfl (q_move (v := .slice Apath path.length cpath) rfl (by kernel_rfl)) ?_
      obtain ⟨z65, hz66, h⟩ := bnd h
      refine e_call (is := [0]) rfl rfl (call_run Tryz.call38 rfl rfl (by kernel_rfl)) rfl (fun w hp => t_tree_Tree_Kids hH (ht_.mono hl58) (hpath.mono hl58) hpathc hlen hp hz66) ?_
      rintro Γ67 U69 v70 hl68 ⟨row71, A73, c74, row75, rfl, rfl, hr72, hr76, hz77, _⟩
      change WR _ _ _ (CC F Γ67 [row71, row75, row63]) _ _ (upd _ 37 (.slice A73 z65.2.length c74))
      refine va rfl rfl rfl (q_len_slice rfl Tryz.underlying24 rfl) ?_
      refine va rfl rfl rfl (q_move (v := .int .i64 0) rfl (by kernel_rfl)) ?_
      refine WR.nil ?_
      change WC _ _ _ _ _ _
      refine WC.block ?_
      refine WC.forI h (fun (i86 : Nat) (b_80 : List UInt8) σ w => ∃ (Γ78 : Gh), ∃ (A81 : Option Addr), ∃ (c82 : Nat), ∃ (row83 : Rowb), slots σ [(5, .slice A81 b_80.length c82), (6, .bool (decide (0 < ((z55.length : Nat) : Int)))), (37, .slice A73 z65.2.length c74), (38, .int .i64 ((z65.2.length : Nat) : Int)), (39, .int .i64 ((i86 : Nat) : Int))] ∧ CC F Γ78 [row83, row71, row75] w ∧ Gh.le Γ67 Γ78 ∧ Own byteT Γ78 5 row83 A81 c82 b_80 ∧ True) ?_ ?_
      · skip
        intro w hw
        have hw := hw.pad
        exact ⟨Γ67, none, 0, [], (sl_ (by kernel_rfl)), (hw.only (is := [0, 0, 0]) rfl), (Gh.refl _), (Own.nil byteT _ 5), trivial⟩
      rintro f85 i86 b_80 σ w hi87 hlt88 hge89 ⟨Γ78, A81, c82, row83, hsl, hw, hl79, ho84, -⟩
      refine Wpt.slots hsl ?_
      refine WC.here (C := CC F Γ78 [row83, row71, row75]) ?_ hw
      clear hw hsl
      refine WC.rs ?_
      refine va rfl rfl rfl (q_lss rfl rfl rfl) ?_
      refine WR.nil ?_
      change WC _ _ _ _ _ _
      refine WC.seq ?_
      refine WC.cond (b := (decide (((i86 : Nat) : Int) < ((z65.2.length : Nat) : Int)))) (by kernel_rfl) (fun hb90 => ?_) (fun hb90 => ?_)
      · skip
        have hl91 := ilt hb90
        have h := hlt88 hl91
        refine WC.skip ?_
        change WC _ _ _ _ _ _
        refine WC.seq ?_
        refine WC.block ?_
        refine WC.rs ?_
        refine va rfl rfl rfl (q_ixn (i := i86) Tryz.underlying24 Tryz.sizeOf67 rfl rfl rfl hl91 ((hr76.mono hl79).some_ hl91)) ?_
        refine va rfl rfl rfl (q_ldo (c := 0) (v := .int .u64 (gt z65.2 i86)) (i := 2) rfl ((hr76.mono hl79).u64T_at hl91).2 rfl Tryz.isAgg67 rfl rfl) ?_
        refine va rfl rfl rfl (q_assign (v := .int .u64 (gt z65.2 i86)) rfl (by kernel_rfl)) ?_
        refine WR.nil ?_
        change WC _ _ _ _ _ _
        refine WC.region ?_
        refine va rfl rfl rfl (q_move (v := .slice A81 b_80.length c82) rfl (by kernel_rfl)) ?_
        refine va rfl rfl rfl (q_move (v := .int .u64 (gt z65.2 i86)) rfl (by kernel_rfl)) ?_
        obtain ⟨z92, hz93, h⟩ := bnd h
        refine e_call (is := [0]) rfl rfl (call_run Tryz.call109 rfl rfl (by kernel_rfl)) rfl (fun w hp => t_tree_halves ho84 (gt z65.2 i86) ((hr76.mono hl79).u64T_at hl91).1 hp hz93) ?_
        rintro Γ94 U96 v97 hl95 ⟨A98, c99, row100, rfl, rfl, hr101, _⟩
        change WR _ _ _ (CC F Γ94 [row100, row71, row75]) _ _ (upd _ 45 (.slice A98 z92.length c99))
        refine va rfl rfl rfl (q_assign (v := .slice A98 z92.length c99) rfl (by kernel_rfl)) ?_
        refine WR.nil ?_
        change WC _ _ _ _ _ _
        refine WC.region ?_
        refine va rfl rfl rfl (q_add_r (r := ((i86 + 1 : Nat) : Int)) rfl rfl rfl (ctr_len hl91 (hr76.mono hl79).le)) ?_
        refine va rfl rfl rfl (q_move (v := .int .i64 ((i86 + 1 : Nat) : Int)) rfl (by kernel_rfl)) ?_
        refine WR.nil ?_
        intro w hw
        exact ⟨hl91, z92, h, Γ94, A98, c99, row100, (sl_ (by kernel_rfl)), hw, (hl79.trans hl95), hr101, trivial⟩
      · skip
        have h := hge89 (ige hb90)
        refine WC.exit ?_
        intro w hw
        exact ⟨b_80, (decide (0 < ((z55.length : Nat) : Int))), z65.1, Γ78, A81, c82, row83, row71, h, (sl_ (by kernel_rfl)), (hw.only (is := [0, 0]) rfl), ((hl58.trans hl68).trans hl79), ho84, (hr72.mono hl79), trivial⟩
  · skip
    rintro σ w ⟨b_3, some_8, o9, Γ1, A4, c5, row6, row10, h, hsl, hw, hl2, ho7, ho11, -⟩
    refine Wpt.slots hsl ?_
    refine WC.here (C := CC F Γ1 [row6, row10]) ?_ hw
    clear hw hsl
    refine WC.seq ?_
    refine WC.rs ?_
    refine va rfl rfl rfl (q_move (v := .bool some_8) rfl (by kernel_rfl)) ?_
    refine va rfl rfl rfl (q_not rfl rfl) ?_
    refine WR.nil ?_
    change WC _ _ _ _ _ _
    refine WC.cif h (by kernel_rfl) (fun hb102 h => ?_) (fun hb102 h => ?_)
    · skip
      refine WC.rs ?_
      refine va rfl rfl rfl (q_assign (v := .int .u64 0) rfl (by kernel_rfl)) ?_
      refine WR.nil ?_
      change WC _ _ _ _ _ _
      refine WC.ret ?_
      intro w hw
      obtain rfl := Option.some.inj h
      subst hF
      exact end_e (is := [1]) (by kernel_rfl) hw rfl ⟨row10, rfl, rfl, ho11, (show U64 0 by decide), trivial⟩
    · skip
      refine WC.skip ?_
      change WC _ _ _ _ _ _
      refine WC.rs ?_
      refine va rfl rfl rfl (q_move (v := .slice A4 b_3.length c5) rfl (by kernel_rfl)) ?_
      obtain ⟨z103, hz104, h⟩ := bnd h
      refine vc rfl rfl rfl (q_call (call_run Tryz.call106 rfl rfl (by kernel_rfl)) (fun w hw => t_num_Hash (Γ := Gh.all w) (ho7.sl hw.sat.le_all (hw.ra 0 rfl)) ho7.capz (Sat.all w) hz104)) ?_
      refine va rfl rfl rfl (q_assign (v := .int .u64 z103) rfl (by kernel_rfl)) ?_
      refine WR.nil ?_
      change WC _ _ _ _ _ _
      refine WC.ret ?_
      intro w hw
      obtain ⟨hk105, h⟩ := chk_some h
      obtain rfl := Option.some.inj h
      subst hF
      exact end_e (is := [1]) (by kernel_rfl) hw rfl ⟨row10, rfl, rfl, ho11, (u64b_of hk105), trivial⟩
end Fw
end Go.Proofs.YtbidmceookkapaaGreat
