/- Walks through the functions that the law reaches (printed by a program). No condition. -/
import Derived.Test.YtiakfgdgafljnaaGreatM
import Derived.Test.YtiakfgdgafljnaaGreatS
import Derived.Test.YtiakfgdgafljnaaGreatO
namespace Go.Proofs.YtiakfgdgafljnaaGreat
namespace Fw
set_option linter.unusedVariables false
set_option linter.unusedSimpArgs false
set_option linter.unusedSectionVars false
open Go.RowKit
/-- a tree's type, and which of its sums are lent -/
abbrev TG := TypeId × List ((Int × Int × Int) × Nat)
abbrev tg0 (t : TypeId) : TG := (t, [])
def OTree.ob (e : TG) (Γ : Gh) (g : Nat) (row : Rowb) (x : OTree) : Prop := ∃ (cs : List Value) (rowL : Rowb) (sm : Nat) (rowS : Rowb), row = ([[(g, .cells (cs ++ [Value.map (some sm)]).toArray e.1 (0, 0))], rowL, rowS] : List Rowb).flatten ∧ MapsA (strK Tryz.underlying9) recT.ag Γ cs rowL x.leaves ∧ x.leaves.length = 256 ∧ Sums kk125 158 e.2 Γ rowS sm x.sums ∧ True
theorem OTree.ob.mono {e : TG} {Γ Δ : Gh} {g : Nat} {row : Rowb} {x : OTree} (h : OTree.ob e Γ g row x) (hs : Γ.le Δ) : OTree.ob e Δ g row x := by
  obtain ⟨cs, rowL, sm, rowS, h1, h2, h3, h4, -⟩ := h
  exact ⟨cs, rowL, sm, rowS, h1, h2.mono hs, h3, h4.mono hs, trivial⟩
theorem lent_lt {l : List ((Int × Int × Int) × Nat)} {n m : Nat} (h : ∀ p ∈ l, p.1.1 ≤ (n : Int)) (hm : m = n + 1) : ∀ p ∈ l, p.1.1 < (m : Int) := fun p hp => by have := h p hp; omega
abbrev r_tree_Tree_Hash (gt : Nat) (et : TG) (r : OTree × Int) (U : List Rowb) (Γ : Gh) (v : Value) : Prop := ∃ (rowt' : Rowb), v = .int .u64 r.2 ∧ U = [rowt'] ∧ OTree.ob et Γ gt rowt' r.1 ∧ U64 r.2 ∧ True
/-- what is asked of whoever tells a place's hash -/
def HashC (H : OTree → List Int → Option (OTree × Int)) : Prop := ∀ {Γ : Gh} {w0 : World} {gt : Nat} {et : TG} {rowt : Rowb} {t : OTree} (ht : OTree.ob et Γ gt rowt t) {A : Option Addr} {c : Nat} {path : List Int} (hpath : Sl intT Γ A path) (hc : path.length ≤ c) (hlen : ∀ p ∈ et.2, p.1.1 < (path.length : Int)) (hp : Pre [rowt] Γ w0) {r : OTree × Int} (h : H t path = some r), Calls Tryz.prog 75 #[.pointer (some ⟨gt, 0, none⟩), .slice A path.length c] w0 (Outc Γ [rowt] w0 (r_tree_Tree_Hash gt et r))
def Opull_Cut.ob (e : TypeId) (Γ : Gh) (g : Nat) (row : Rowb) (x : Opull_Cut) : Prop := ∃ (A1 : Option Addr) (c1 : Nat) (g2 : Nat) (r2 : Rowb), row = ([[(g, .cells #[.int .i64 x.id, .slice A1 x.vec.length c1, .pointer (some ⟨g2, 0, none⟩)] e (0, 0))], r2] : List Rowb).flatten ∧ I64 x.id ∧ x.vec.length ≤ c1 ∧ Sl intT Γ A1 x.vec ∧ OTree.ob (tg0 123) Γ g2 r2 x.tree ∧ True
theorem Opull_Cut.ob.mono {e : TypeId} {Γ Δ : Gh} {g : Nat} {row : Rowb} {x : Opull_Cut} (h : Opull_Cut.ob e Γ g row x) (hs : Γ.le Δ) : Opull_Cut.ob e Δ g row x := by
  obtain ⟨A1, c1, g2, r2, hr, h0, h1, h2, h3, _⟩ := h
  exact ⟨A1, c1, g2, r2, hr, h0, h1, h2.mono hs, OTree.ob.mono h3 hs, trivial⟩
def Opull_Pull.ob (e : TypeId) (Γ : Gh) (g : Nat) (row : Rowb) (x : Opull_Pull) : Prop := ∃ (g1 : Nat) (r1 : Rowb) (A3 : Option Addr) (c3 : Nat) (A4 : Option Addr) (c4 : Nat) (r4 : Rowb) (g5 : Nat) (r5 : Rowb), row = ([[(g, .cells #[.int .i64 x.id, .pointer (some ⟨g1, 0, none⟩), .bool x.begun, .slice A3 x.vec.length c3, .slice A4 x.wants.length c4, .pointer (some ⟨g5, 0, none⟩)] e (0, 0))], r1, r4, r5] : List Rowb).flatten ∧ I64 x.id ∧ OTree.ob (tg0 123) Γ g1 r1 x.own ∧ x.vec.length ≤ c3 ∧ Sl intT Γ A3 x.vec ∧ Own dpull_wayT Γ 100 r4 A4 c4 x.wants ∧ OTree.ob (tg0 123) Γ g5 r5 x.staged ∧ True
theorem Opull_Pull.ob.mono {e : TypeId} {Γ Δ : Gh} {g : Nat} {row : Rowb} {x : Opull_Pull} (h : Opull_Pull.ob e Γ g row x) (hs : Γ.le Δ) : Opull_Pull.ob e Δ g row x := by
  obtain ⟨g1, r1, A3, c3, A4, c4, r4, g5, r5, hr, h0, h1, h2, h3, h4, h5, _⟩ := h
  exact ⟨g1, r1, A3, c3, A4, c4, r4, g5, r5, hr, h0, OTree.ob.mono h1 hs, h2, h3.mono hs, h4.mono hs, OTree.ob.mono h5 hs, trivial⟩
theorem like_Dot : LikeT dotT sh0 := ⟨by
  rintro Γ Δ cs cs' x ⟨rfl, hf⟩ hl h
  obtain ⟨f0, f1⟩ := hf
  obtain ⟨u0, w0, rfl, k0, h⟩ := lks_cons h
  obtain ⟨u1, w1, rfl, k1, h⟩ := lks_cons h
  have h := lks_nil h
  subst h
  obtain ⟨y0, rfl, g0⟩ := lk_int k0 f0
  obtain ⟨y1, rfl, g1⟩ := lk_int k1 f1
  exact ⟨⟨y0, y1⟩, ⟨rfl, g0, g1⟩, rfl⟩⟩
theorem like_Span : LikeT spanT sh0 := ⟨by
  rintro Γ Δ cs cs' x ⟨rfl, hf⟩ hl h
  obtain ⟨f0, f1, f2⟩ := hf
  obtain ⟨u0, w0, rfl, k0, h⟩ := lks_cons h
  obtain ⟨u1, w1, rfl, k1, h⟩ := lks_cons h
  obtain ⟨u2, w2, rfl, k2, h⟩ := lks_cons h
  have h := lks_nil h
  subst h
  obtain ⟨y0, rfl, g0⟩ := lk_int k0 f0
  obtain ⟨y1, rfl, g1⟩ := lk_int k1 f1
  obtain ⟨y2, rfl, g2⟩ := lk_int k2 f2
  exact ⟨⟨y0, y1, y2⟩, ⟨rfl, g0, g1, g2⟩, rfl⟩⟩
@[reducible] def Ver.sh (x : Ver) : Sh := shL sh0 x.past
theorem like_Ver : LikeT verT Ver.sh := ⟨by
  rintro Γ Δ cs cs' x ⟨A2, c2, rfl, hf⟩ hl h
  obtain ⟨f0, f1, f2, f4⟩ := hf
  obtain ⟨u0, w0, rfl, k0, h⟩ := lks_cons h
  obtain ⟨u1, w1, rfl, k1, h⟩ := lks_cons h
  obtain ⟨u2, w2, rfl, k2, h⟩ := lks_cons h
  obtain ⟨u3, w3, rfl, k3, h⟩ := lks_cons h
  obtain ⟨u4, w4, rfl, k4, h⟩ := lks_cons h
  have h := lks_nil h
  subst h
  obtain ⟨y0, rfl, g0⟩ := lk_int k0 f0
  obtain ⟨y1, rfl, g1⟩ := lk_int k1 f1
  obtain ⟨y2, rfl, g2, e2⟩ := lk_sl like_Span hl k2 f2
  obtain ⟨y3, rfl⟩ := lk_bool k3
  obtain ⟨y4, rfl, g4⟩ := lk_str k4 f4
  exact ⟨⟨⟨y0, y1⟩, y2, y3, y4⟩, ⟨A2, c2, rfl, g0, g1, g2, g4⟩, e2⟩⟩
@[reducible] def Rec.sh (x : Rec) : Sh := shL Ver.sh x.vers
theorem like_Rec : LikeT recT Rec.sh := ⟨by
  rintro Γ Δ cs cs' x ⟨A1, c1, rfl, hf⟩ hl h
  obtain ⟨f0, f1⟩ := hf
  obtain ⟨u0, w0, rfl, k0, h⟩ := lks_cons h
  obtain ⟨u1, w1, rfl, k1, h⟩ := lks_cons h
  have h := lks_nil h
  subst h
  obtain ⟨y0, rfl, g0⟩ := lk_str k0 f0
  obtain ⟨y1, rfl, g1, e1⟩ := lk_sl like_Ver hl k1 f1
  exact ⟨⟨y0, y1⟩, ⟨A1, c1, rfl, g0, g1⟩, e1⟩⟩
abbrev r_firthlaw19_k (r : List Rec) (U : List Rowb) (Γ : Gh) (v : Value) : Prop := ∃ (A0 : Option Addr), ∃ (c0 : Nat), ∃ (row0 : Rowb), v = .slice A0 r.length c0 ∧ U = [row0] ∧ Own recT Γ 70 row0 A0 c0 r ∧ True
set_option maxRecDepth 100000 in
set_option maxHeartbeats 400000 in
theorem t_firthlaw19_k {Γ : Gh} {w0 : World}  (hp : Pre [] Γ w0) {r : List Rec} (h : m_firthlaw19_k = some r) : Calls Tryz.prog 49 #[] w0 (Outc Γ [] w0 (r_firthlaw19_k r)) := by
  refine calls_of (N := 6) (rs := [0]) (args := []) Tryz.func49 rfl Tryz.ntmps49 Tryz.results49 rfl ?_
  obtain ⟨F, hF⟩ : ∃ F : Fm, F = ⟨ids [], w0, Γ⟩ := ⟨_, rfl⟩
  refine WC.here (C := CC F Γ []) ?_ (hF ▸ hp.start)
  refine WC.rs ?_
  refine va rfl rfl rfl (q_assign (v := .slice none 0 0) rfl (by kernel_rfl)) ?_
  refine WR.nil ?_
  change WC _ _ _ _ _ _
  refine WC.rs ?_
  refine va rfl rfl rfl (q_build' (v := .agg #[.int .i64 1, .int .i64 1]) rfl (bargs2 rfl rfl) (fun w => by kernel_rfl)) ?_
  refine va rfl rfl rfl (q_build' (v := .agg #[.int .i64 1, .int .i64 1, .slice none 0 0, .bool false, .string (⟨#[118]⟩ : ByteArray)]) rfl (bargs2 rfl rfl) (fun w => by kernel_rfl)) ?_
  refine e_buildSlice (cs := #[.int .i64 1, .int .i64 1, .slice none 0 0, .bool false, .string (⟨#[118]⟩ : ByteArray)]) (e := 115) rfl rfl rfl rfl (fun w => by kernel_rfl) ?_
  intro g1
  refine va rfl rfl rfl (q_build' (v := .agg #[.string (⟨#[107]⟩ : ByteArray), .slice (some ⟨g1, 0, none⟩) 1 1]) rfl (bargs2 rfl rfl) (fun w => by kernel_rfl)) ?_
  have ho2 : Own verT Γ 115 [(g1, .cells #[.int .i64 1, .int .i64 1, .slice none 0 0, .bool false, .string (⟨#[118]⟩ : ByteArray)] 115 (0, 0))] (some ⟨g1, 0, none⟩) 1 [(⟨(⟨1, 1⟩ : Dot), [], false, (⟨#[118]⟩ : ByteArray)⟩ : Ver)] := Own.of_blockL (T := verT) (ys := [(⟨(⟨1, 1⟩ : Dot), [], false, (⟨#[118]⟩ : ByteArray)⟩ : Ver)]) [[.int .i64 1, .int .i64 1, .slice none 0 0, .bool false, .string (⟨#[118]⟩ : ByteArray)]] rfl (show 1 ≤ lim by decide) (show Ty.rd verT Γ [.int .i64 1, .int .i64 1, .slice none 0 0, .bool false, .string (⟨#[118]⟩ : ByteArray)] (⟨(⟨1, 1⟩ : Dot), [], false, (⟨#[118]⟩ : ByteArray)⟩ : Ver) ∧ True from ⟨⟨none, 0, rfl, ⟨(show I64 1 by decide), (show I64 1 by decide), ⟨Nat.zero_le _, Sl.nil _ _ _⟩, (show (⟨#[118]⟩ : ByteArray).size ≤ lim by decide)⟩⟩, trivial⟩)
  have hc7 := ho2.capz
  intro w hw; obtain ⟨Γ3, hw, hl4, hr5⟩ := hw.seal (i := 0) rfl; have hs6 := ho2.sl hl4 hr5
  refine WR.here (C := CC F Γ3 [[]]) ?_ hw
  clear hw
  refine e_buildSlice (cs := #[.string (⟨#[107]⟩ : ByteArray), .slice (some ⟨g1, 0, none⟩) [(⟨(⟨1, 1⟩ : Dot), [], false, (⟨#[118]⟩ : ByteArray)⟩ : Ver)].length 1]) (e := 70) rfl rfl rfl rfl (fun w => by kernel_rfl) ?_
  intro g8
  refine va rfl rfl rfl (q_assign (v := .slice (some ⟨g8, 0, none⟩) 1 1) rfl (by kernel_rfl)) ?_
  refine WR.nil ?_
  change WC _ _ _ _ _ _
  refine WC.ret ?_
  intro w hw
  have ho9 : Own recT Γ3 70 [(g8, .cells #[.string (⟨#[107]⟩ : ByteArray), .slice (some ⟨g1, 0, none⟩) [(⟨(⟨1, 1⟩ : Dot), [], false, (⟨#[118]⟩ : ByteArray)⟩ : Ver)].length 1] 70 (0, 0))] (some ⟨g8, 0, none⟩) 1 [(⟨(⟨#[107]⟩ : ByteArray), [(⟨(⟨1, 1⟩ : Dot), [], false, (⟨#[118]⟩ : ByteArray)⟩ : Ver)]⟩ : Rec)] := Own.of_blockL (T := recT) (ys := [(⟨(⟨#[107]⟩ : ByteArray), [(⟨(⟨1, 1⟩ : Dot), [], false, (⟨#[118]⟩ : ByteArray)⟩ : Ver)]⟩ : Rec)]) [[.string (⟨#[107]⟩ : ByteArray), .slice (some ⟨g1, 0, none⟩) [(⟨(⟨1, 1⟩ : Dot), [], false, (⟨#[118]⟩ : ByteArray)⟩ : Ver)].length 1]] rfl (show 1 ≤ lim by decide) (show Ty.rd recT Γ3 [.string (⟨#[107]⟩ : ByteArray), .slice (some ⟨g1, 0, none⟩) [(⟨(⟨1, 1⟩ : Dot), [], false, (⟨#[118]⟩ : ByteArray)⟩ : Ver)].length 1] (⟨(⟨#[107]⟩ : ByteArray), [(⟨(⟨1, 1⟩ : Dot), [], false, (⟨#[118]⟩ : ByteArray)⟩ : Ver)]⟩ : Rec) ∧ True from ⟨⟨(some ⟨g1, 0, none⟩), 1, rfl, ⟨(show (⟨#[107]⟩ : ByteArray).size ≤ lim by decide), ⟨hc7, hs6⟩⟩⟩, trivial⟩)
  obtain rfl := Option.some.inj h
  subst hF
  exact end_e (is := [0]) (by kernel_rfl) hw rfl ⟨(some ⟨g8, 0, none⟩), 1, [(g8, .cells #[.string (⟨#[107]⟩ : ByteArray), .slice (some ⟨g1, 0, none⟩) [(⟨(⟨1, 1⟩ : Dot), [], false, (⟨#[118]⟩ : ByteArray)⟩ : Ver)].length 1] 70 (0, 0))], rfl, rfl, ho9, trivial⟩
set_option maxRecDepth 100000 in
set_option maxHeartbeats 400000 in
theorem t_span_Right {Γ : Gh} {w0 : World} {Al : Option Addr} {cl : Nat} {l : List Span} (hl : Sl spanT Γ Al l) (hlc : l.length ≤ cl) (hs : Sat Γ w0) {r : Bool} (h : m_span_Right l = some r) : Calls Tryz.prog 137 #[.slice Al l.length cl] w0 (fun e w' => e = .returned (.bool r) ∧ Fr no w0 w') := by
  refine calls_of (N := 65) (rs := [2]) (args := [.slice Al l.length cl]) Tryz.func137 rfl Tryz.ntmps137 Tryz.results137 rfl ?_
  obtain ⟨F, hF⟩ : ∃ F : Fm, F = ⟨no, w0, Γ⟩ := ⟨_, rfl⟩
  refine WC.here (C := CC F Γ []) ?_ (hF ▸ Cur.start0 hs)
  refine WC.rs ?_
  refine va rfl rfl rfl (q_assign (v := .bool false) rfl (by kernel_rfl)) ?_
  refine WR.nil ?_
  change WC _ _ _ _ _ _
  refine WC.rs ?_
  refine va rfl rfl rfl (q_build (v := .agg #[.int .i64 0, .int .i64 0, .int .i64 0]) rfl (fun w => by kernel_rfl)) ?_
  refine e_alloc Tryz.zeroValue117 rfl rfl rfl rfl ?_
  intro g1
  refine e_st (i := 0) (v := .agg #[.int .i64 0, .int .i64 0, .int .i64 0]) (new := #[.int .i64 0, .int .i64 0, .int .i64 0]) rfl Tryz.sizeOf117 rfl rfl rfl rfl (by kernel_rfl) rfl rfl rfl rfl ?_
  refine WR.nil ?_
  change WC _ _ _ _ _ _
  refine WC.seq ?_
  refine WC.rs ?_
  refine va rfl rfl rfl (q_move (v := .slice Al l.length cl) rfl (by kernel_rfl)) ?_
  refine va rfl rfl rfl (q_len_slice rfl Tryz.underlying113 rfl) ?_
  refine va rfl rfl rfl (q_move (v := .int .i64 0) rfl (by kernel_rfl)) ?_
  refine WR.nil ?_
  change WC _ _ _ _ _ _
  refine WC.block ?_
  refine WC.forI h (fun (i5 : Nat) (x2 : Span) σ w => slots σ [(0, .slice Al l.length cl), (3, .pointer (some ⟨g1, 0, none⟩)), (7, .slice Al l.length cl), (8, .int .i64 ((l.length : Nat) : Int)), (9, .int .i64 ((i5 : Nat) : Int))] ∧ CC F Γ [[(g1, .cells #[.int .i64 x2.s, .int .i64 x2.f, .int .i64 x2.t] 117 (0, 0))]] w ∧ Span.fits Γ  x2 ∧ True) ?_ ?_
  · skip
    intro w hw
    exact ⟨(sl_ (by kernel_rfl)), hw, ⟨(show I64 0 by decide), (show I64 0 by decide), (show I64 0 by decide)⟩, trivial⟩
  rintro f4 i5 x2 σ w hi6 hlt7 hge8 ⟨hsl, hw, hf3, -⟩
  refine Wpt.slots hsl ?_
  refine WC.here (C := CC F Γ [[(g1, .cells #[.int .i64 x2.s, .int .i64 x2.f, .int .i64 x2.t] 117 (0, 0))]]) ?_ hw
  clear hw hsl
  refine WC.rs ?_
  refine va rfl rfl rfl (q_lss rfl rfl rfl) ?_
  refine WR.nil ?_
  change WC _ _ _ _ _ _
  refine WC.seq ?_
  refine WC.cond (b := (decide (((i5 : Nat) : Int) < ((l.length : Nat) : Int)))) (by kernel_rfl) (fun hb9 => ?_) (fun hb9 => ?_)
  · skip
    have hl10 := ilt hb9
    have h := hlt7 hl10
    refine WC.skip ?_
    change WC _ _ _ _ _ _
    refine WC.seq ?_
    refine WC.block ?_
    refine WC.rs ?_
    refine va rfl rfl rfl (q_ixn (i := i5) Tryz.underlying113 Tryz.sizeOf117 rfl rfl rfl hl10 (hl.some_ hl10)) ?_
    refine va rfl rfl rfl (q_lda (c := 0) (vs := [.int .i64 (gt l i5).s, .int .i64 (gt l i5).f, .int .i64 (gt l i5).t]) (hl.spanT_at hl10).2 rfl Tryz.isAgg117 Tryz.sizeOf117 rfl rfl rfl) ?_
    refine e_alloc Tryz.zeroValue117 rfl rfl rfl rfl ?_
    intro g11
    refine e_st (i := 0) (v := .agg #[.int .i64 (gt l i5).s, .int .i64 (gt l i5).f, .int .i64 (gt l i5).t]) (new := #[.int .i64 (gt l i5).s, .int .i64 (gt l i5).f, .int .i64 (gt l i5).t]) rfl Tryz.sizeOf117 rfl rfl rfl rfl (by kernel_rfl) rfl rfl rfl rfl ?_
    refine WR.nil ?_
    change WC _ _ _ _ _ _
    refine WC.seq ?_
    refine WC.rs ?_
    refine va rfl rfl rfl (q_fl 0 fld_117_0 rfl rfl rfl) ?_
    refine va rfl rfl rfl (q_ldl (i := 0) (v := .int .i64 (gt l i5).s) rfl rfl Tryz.isAgg3 rfl rfl) ?_
    refine va rfl rfl rfl (q_lss rfl rfl rfl) ?_
    refine va rfl rfl rfl (q_move (v := .bool (decide ((gt l i5).s < 1))) rfl (by kernel_rfl)) ?_
    refine vg0 rfl rfl rfl rfl rfl (fun hg12 => QV.qo (q_fl 0 fld_117_0 rfl rfl rfl)) ?_
    refine vg0 rfl rfl rfl rfl rfl (fun hg13 => QV.qo (q_ldl (i := 0) (v := .int .i64 (gt l i5).s) rfl rfl Tryz.isAgg3 (gu hg13 rfl) rfl)) ?_
    refine vg0 rfl rfl rfl rfl rfl (fun hg14 => QV.qo (q_gtr rfl (gu hg14 rfl) rfl)) ?_
    refine va rfl rfl rfl (q_pick rfl rfl (pk_or' (g := (decide ((gt l i5).s < 1))) (y := (decide (16 < (gt l i5).s))))) ?_
    refine va rfl rfl rfl (q_move (v := .bool ((decide ((gt l i5).s < 1)) || (decide (16 < (gt l i5).s)))) rfl (by kernel_rfl)) ?_
    refine vg0 rfl rfl rfl rfl rfl (fun hg15 => QV.qo (q_fl 1 fld_117_1 rfl rfl rfl)) ?_
    refine vg0 rfl rfl rfl rfl rfl (fun hg16 => QV.qo (q_ldl (i := 0) (v := .int .i64 (gt l i5).f) rfl rfl Tryz.isAgg2 (gu hg16 rfl) rfl)) ?_
    refine vg0 rfl rfl rfl rfl rfl (fun hg17 => QV.qo (q_lss rfl (gu hg17 rfl) rfl)) ?_
    refine va rfl rfl rfl (q_pick rfl rfl (pk_or' (g := ((decide ((gt l i5).s < 1)) || (decide (16 < (gt l i5).s)))) (y := (decide ((gt l i5).f < 1))))) ?_
    refine va rfl rfl rfl (q_move (v := .bool (((decide ((gt l i5).s < 1)) || (decide (16 < (gt l i5).s))) || (decide ((gt l i5).f < 1)))) rfl (by kernel_rfl)) ?_
    refine vg0 rfl rfl rfl rfl rfl (fun hg18 => QV.qo (q_fl 1 fld_117_1 rfl rfl rfl)) ?_
    refine vg0 rfl rfl rfl rfl rfl (fun hg19 => QV.qo (q_ldl (i := 0) (v := .int .i64 (gt l i5).f) rfl rfl Tryz.isAgg2 (gu hg19 rfl) rfl)) ?_
    refine vg0 rfl rfl rfl rfl rfl (fun hg20 => QV.qo (q_fl 2 fld_117_2 rfl rfl rfl)) ?_
    refine vg0 rfl rfl rfl rfl rfl (fun hg21 => QV.qo (q_ldl (i := 0) (v := .int .i64 (gt l i5).t) rfl rfl Tryz.isAgg2 (gu hg21 rfl) rfl)) ?_
    refine vg0 rfl rfl rfl rfl rfl (fun hg22 => QV.qo (q_gtr rfl (gu hg22 rfl) (gu hg22 rfl))) ?_
    refine va rfl rfl rfl (q_pick rfl rfl (pk_or' (g := (((decide ((gt l i5).s < 1)) || (decide (16 < (gt l i5).s))) || (decide ((gt l i5).f < 1)))) (y := (decide ((gt l i5).t < (gt l i5).f))))) ?_
    refine va rfl rfl rfl (q_move (v := .bool ((((decide ((gt l i5).s < 1)) || (decide (16 < (gt l i5).s))) || (decide ((gt l i5).f < 1))) || (decide ((gt l i5).t < (gt l i5).f)))) rfl (by kernel_rfl)) ?_
    refine vg0 rfl rfl rfl rfl rfl (fun hg23 => QV.qo (q_fl 2 fld_117_2 rfl rfl rfl)) ?_
    refine vg0 rfl rfl rfl rfl rfl (fun hg24 => QV.qo (q_ldl (i := 0) (v := .int .i64 (gt l i5).t) rfl rfl Tryz.isAgg2 (gu hg24 rfl) rfl)) ?_
    refine vg0 rfl rfl rfl rfl rfl (fun hg25 => QV.qo (q_gtr rfl (gu hg25 rfl) rfl)) ?_
    refine va rfl rfl rfl (q_pick rfl rfl (pk_or' (g := ((((decide ((gt l i5).s < 1)) || (decide (16 < (gt l i5).s))) || (decide ((gt l i5).f < 1))) || (decide ((gt l i5).t < (gt l i5).f)))) (y := (decide (4611686018427387904 < (gt l i5).t))))) ?_
    refine va rfl rfl rfl (q_move (v := .bool (((((decide ((gt l i5).s < 1)) || (decide (16 < (gt l i5).s))) || (decide ((gt l i5).f < 1))) || (decide ((gt l i5).t < (gt l i5).f))) || (decide (4611686018427387904 < (gt l i5).t)))) rfl (by kernel_rfl)) ?_
    refine vg0 rfl rfl rfl rfl rfl (fun hg26 => QV.qo (q_fl 0 fld_117_0 rfl rfl rfl)) ?_
    refine vg0 rfl rfl rfl rfl rfl (fun hg27 => QV.qo (q_ldl (i := 0) (v := .int .i64 (gt l i5).s) rfl rfl Tryz.isAgg3 (gu hg27 rfl) rfl)) ?_
    refine vg0 rfl rfl rfl rfl rfl (fun hg28 => QV.qo (q_fl 0 fld_117_0 rfl rfl rfl)) ?_
    refine vg0 rfl rfl rfl rfl rfl (fun hg29 => QV.qo (q_ldl (i := 1) (v := .int .i64 x2.s) rfl rfl Tryz.isAgg3 (gu hg29 rfl) rfl)) ?_
    refine vg0 rfl rfl rfl rfl rfl (fun hg30 => QV.qo (q_lss rfl (gu hg30 rfl) (gu hg30 rfl))) ?_
    refine va rfl rfl rfl (q_pick rfl rfl (pk_or' (g := (((((decide ((gt l i5).s < 1)) || (decide (16 < (gt l i5).s))) || (decide ((gt l i5).f < 1))) || (decide ((gt l i5).t < (gt l i5).f))) || (decide (4611686018427387904 < (gt l i5).t)))) (y := (decide ((gt l i5).s < x2.s))))) ?_
    refine va rfl rfl rfl (q_move (v := .bool ((((((decide ((gt l i5).s < 1)) || (decide (16 < (gt l i5).s))) || (decide ((gt l i5).f < 1))) || (decide ((gt l i5).t < (gt l i5).f))) || (decide (4611686018427387904 < (gt l i5).t))) || (decide ((gt l i5).s < x2.s)))) rfl (by kernel_rfl)) ?_
    refine vg0 rfl rfl rfl rfl rfl (fun hg31 => QV.qo (q_fl 0 fld_117_0 rfl rfl rfl)) ?_
    refine vg0 rfl rfl rfl rfl rfl (fun hg32 => QV.qo (q_ldl (i := 0) (v := .int .i64 (gt l i5).s) rfl rfl Tryz.isAgg3 (gu hg32 rfl) rfl)) ?_
    refine vg0 rfl rfl rfl rfl rfl (fun hg33 => QV.qo (q_fl 0 fld_117_0 rfl rfl rfl)) ?_
    refine vg0 rfl rfl rfl rfl rfl (fun hg34 => QV.qo (q_ldl (i := 1) (v := .int .i64 x2.s) rfl rfl Tryz.isAgg3 (gu hg34 rfl) rfl)) ?_
    refine vg0 rfl rfl rfl rfl rfl (fun hg35 => QV.qo (q_eql rfl (gu hg35 rfl) (gu hg35 rfl))) ?_
    refine vg0 rfl rfl rfl rfl rfl (fun hg36 => QV.qo (q_move (v := .bool ((gt l i5).s == x2.s)) rfl (gu hg36 rfl))) ?_
    refine vh1 (c0 := (!((((((decide ((gt l i5).s < 1)) || (decide (16 < (gt l i5).s))) || (decide ((gt l i5).f < 1))) || (decide ((gt l i5).t < (gt l i5).f))) || (decide (4611686018427387904 < (gt l i5).t))) || (decide ((gt l i5).s < x2.s))))) (g := ((gt l i5).s == x2.s)) rfl rfl rfl rfl rfl (fun hg37 => QV.qo (q_fl 1 fld_117_1 rfl rfl rfl)) ?_
    refine vh1 (c0 := (!((((((decide ((gt l i5).s < 1)) || (decide (16 < (gt l i5).s))) || (decide ((gt l i5).f < 1))) || (decide ((gt l i5).t < (gt l i5).f))) || (decide (4611686018427387904 < (gt l i5).t))) || (decide ((gt l i5).s < x2.s))))) (g := ((gt l i5).s == x2.s)) rfl rfl rfl rfl rfl (fun hg38 => QV.qo (q_ldl (i := 0) (v := .int .i64 (gt l i5).f) rfl rfl Tryz.isAgg2 (gu hg38 rfl) rfl)) ?_
    refine vh1 (c0 := (!((((((decide ((gt l i5).s < 1)) || (decide (16 < (gt l i5).s))) || (decide ((gt l i5).f < 1))) || (decide ((gt l i5).t < (gt l i5).f))) || (decide (4611686018427387904 < (gt l i5).t))) || (decide ((gt l i5).s < x2.s))))) (g := ((gt l i5).s == x2.s)) rfl rfl rfl rfl rfl (fun hg39 => QV.qo (q_fl 2 fld_117_2 rfl rfl rfl)) ?_
    refine vh1 (c0 := (!((((((decide ((gt l i5).s < 1)) || (decide (16 < (gt l i5).s))) || (decide ((gt l i5).f < 1))) || (decide ((gt l i5).t < (gt l i5).f))) || (decide (4611686018427387904 < (gt l i5).t))) || (decide ((gt l i5).s < x2.s))))) (g := ((gt l i5).s == x2.s)) rfl rfl rfl rfl rfl (fun hg40 => QV.qo (q_ldl (i := 1) (v := .int .i64 x2.t) rfl rfl Tryz.isAgg2 (gu hg40 rfl) rfl)) ?_
    refine vh1 (c0 := (!((((((decide ((gt l i5).s < 1)) || (decide (16 < (gt l i5).s))) || (decide ((gt l i5).f < 1))) || (decide ((gt l i5).t < (gt l i5).f))) || (decide (4611686018427387904 < (gt l i5).t))) || (decide ((gt l i5).s < x2.s))))) (g := ((gt l i5).s == x2.s)) rfl rfl rfl rfl rfl (fun hg41 => QV.qo (q_add rfl (gu hg41 rfl) rfl)) ?_
    refine vh1 (c0 := (!((((((decide ((gt l i5).s < 1)) || (decide (16 < (gt l i5).s))) || (decide ((gt l i5).f < 1))) || (decide ((gt l i5).t < (gt l i5).f))) || (decide (4611686018427387904 < (gt l i5).t))) || (decide ((gt l i5).s < x2.s))))) (g := ((gt l i5).s == x2.s)) rfl rfl rfl rfl rfl (fun hg42 => QV.qo (q_leq rfl (gu hg42 rfl) (gu hg42 rfl))) ?_
    refine vg0 rfl rfl rfl rfl rfl (fun hg43 => QV.qo (q_pick rfl (gu hg43 rfl) (pk_and (c := (!((((((decide ((gt l i5).s < 1)) || (decide (16 < (gt l i5).s))) || (decide ((gt l i5).f < 1))) || (decide ((gt l i5).t < (gt l i5).f))) || (decide (4611686018427387904 < (gt l i5).t))) || (decide ((gt l i5).s < x2.s))))) (g := ((gt l i5).s == x2.s)) (y := (decide ((gt l i5).f ≤ (w64 (x2.t + 1))))) hg43))) ?_
    refine va rfl rfl rfl (q_pick rfl rfl (pk_or' (g := ((((((decide ((gt l i5).s < 1)) || (decide (16 < (gt l i5).s))) || (decide ((gt l i5).f < 1))) || (decide ((gt l i5).t < (gt l i5).f))) || (decide (4611686018427387904 < (gt l i5).t))) || (decide ((gt l i5).s < x2.s)))) (y := (((gt l i5).s == x2.s) && (decide ((gt l i5).f ≤ (w64 (x2.t + 1)))))))) ?_
    refine WR.nil ?_
    change WC _ _ _ _ _ _
    refine WC.cif h (by kernel_rfl) (fun hb44 h => ?_) (fun hb44 h => ?_)
    · skip
      refine WC.rs ?_
      refine va rfl rfl rfl (q_assign (v := .bool false) rfl (by kernel_rfl)) ?_
      refine WR.nil ?_
      change WC _ _ _ _ _ _
      refine WC.ret ?_
      intro w hw
      obtain rfl := Option.some.inj h
      subst hF
      exact ⟨by kernel_rfl, hw.fr⟩
    · skip
      refine WC.skip ?_
      change WC _ _ _ _ _ _
      refine WC.region ?_
      refine va rfl rfl rfl (q_ldla (i := 0) (vs := [.int .i64 (gt l i5).s, .int .i64 (gt l i5).f, .int .i64 (gt l i5).t]) rfl rfl Tryz.isAgg117 Tryz.sizeOf117 rfl rfl) ?_
      refine e_st (i := 1) (v := .agg #[.int .i64 (gt l i5).s, .int .i64 (gt l i5).f, .int .i64 (gt l i5).t]) (new := #[.int .i64 (gt l i5).s, .int .i64 (gt l i5).f, .int .i64 (gt l i5).t]) rfl Tryz.sizeOf117 rfl rfl rfl rfl (by kernel_rfl) rfl rfl rfl rfl ?_
      refine WR.nil ?_
      change WC _ _ _ _ _ _
      refine WC.region ?_
      refine va rfl rfl rfl (q_add_r (r := ((i5 + 1 : Nat) : Int)) rfl rfl rfl (ctr_len hl10 hl.le)) ?_
      refine va rfl rfl rfl (q_move (v := .int .i64 ((i5 + 1 : Nat) : Int)) rfl (by kernel_rfl)) ?_
      refine WR.nil ?_
      intro w hw
      exact ⟨hl10, (gt l i5), h, (sl_ (by kernel_rfl)), (hw.only (is := [1]) rfl), (hl.spanT_at hl10).1, trivial⟩
  · skip
    have h := hge8 (ige hb9)
    refine WC.exit ?_
    change WC _ _ _ _ _ _
    refine WC.rs ?_
    refine va rfl rfl rfl (q_move (v := .slice Al l.length cl) rfl (by kernel_rfl)) ?_
    refine va rfl rfl rfl (q_len_slice rfl Tryz.underlying113 rfl) ?_
    refine va rfl rfl rfl (q_leq rfl rfl rfl) ?_
    refine va rfl rfl rfl (q_assign (v := .bool (decide (((l.length : Nat) : Int) ≤ 1024))) rfl (by kernel_rfl)) ?_
    refine WR.nil ?_
    change WC _ _ _ _ _ _
    refine WC.ret ?_
    intro w hw
    obtain rfl := Option.some.inj h
    subst hF
    exact ⟨by kernel_rfl, hw.fr⟩
set_option maxRecDepth 100000 in
set_option maxHeartbeats 400000 in
theorem t_span_Top {Γ : Gh} {w0 : World} {Al : Option Addr} {cl : Nat} {l : List Span} (hl : Sl spanT Γ Al l) (hlc : l.length ≤ cl) (s_ : Int) (hs_ : I64 s_) (hs : Sat Γ w0) {r : Int} (h : m_span_Top l s_ = some r) : Calls Tryz.prog 138 #[.slice Al l.length cl, .int .i64 s_] w0 (fun e w' => e = .returned (.int .i64 r) ∧ Fr no w0 w') := by
  refine calls_of (N := 24) (rs := [4]) (args := [.slice Al l.length cl, .int .i64 s_]) Tryz.func138 rfl Tryz.ntmps138 Tryz.results138 rfl ?_
  obtain ⟨F, hF⟩ : ∃ F : Fm, F = ⟨no, w0, Γ⟩ := ⟨_, rfl⟩
  refine WC.here (C := CC F Γ []) ?_ (hF ▸ Cur.start0 hs)
  refine WC.rs ?_
  refine va rfl rfl rfl (q_assign (v := .int .i64 0) rfl (by kernel_rfl)) ?_
  refine WR.nil ?_
  change WC _ _ _ _ _ _
  refine WC.rs ?_
  refine va rfl rfl rfl (q_assign (v := .int .i64 0) rfl (by kernel_rfl)) ?_
  refine WR.nil ?_
  change WC _ _ _ _ _ _
  refine WC.seq ?_
  refine WC.rs ?_
  refine va rfl rfl rfl (q_move (v := .slice Al l.length cl) rfl (by kernel_rfl)) ?_
  refine va rfl rfl rfl (q_len_slice rfl Tryz.underlying113 rfl) ?_
  refine va rfl rfl rfl (q_move (v := .int .i64 0) rfl (by kernel_rfl)) ?_
  refine WR.nil ?_
  change WC _ _ _ _ _ _
  refine WC.block ?_
  refine WC.forI h (fun (i4 : Nat) (top_1 : Int) σ w => slots σ [(1, .int .i64 s_), (5, .int .i64 top_1), (8, .slice Al l.length cl), (9, .int .i64 ((l.length : Nat) : Int)), (10, .int .i64 ((i4 : Nat) : Int))] ∧ CC F Γ [] w ∧ I64 top_1 ∧ True) ?_ ?_
  · skip
    intro w hw
    exact ⟨(sl_ (by kernel_rfl)), hw, (show I64 0 by decide), trivial⟩
  rintro f3 i4 top_1 σ w hi5 hlt6 hge7 ⟨hsl, hw, hr2, -⟩
  refine Wpt.slots hsl ?_
  refine WC.here (C := CC F Γ []) ?_ hw
  clear hw hsl
  refine WC.rs ?_
  refine va rfl rfl rfl (q_lss rfl rfl rfl) ?_
  refine WR.nil ?_
  change WC _ _ _ _ _ _
  refine WC.seq ?_
  refine WC.cond (b := (decide (((i4 : Nat) : Int) < ((l.length : Nat) : Int)))) (by kernel_rfl) (fun hb8 => ?_) (fun hb8 => ?_)
  · skip
    have hl9 := ilt hb8
    have h := hlt6 hl9
    refine WC.skip ?_
    change WC _ _ _ _ _ _
    refine WC.cut (fun σ w => ∃ (top_10 : Int), m_span_Top_j6 f3 top_10 = some r ∧ slots σ [(1, .int .i64 s_), (5, .int .i64 top_10), (8, .slice Al l.length cl), (9, .int .i64 ((l.length : Nat) : Int)), (10, .int .i64 ((i4 : Nat) : Int))] ∧ CC F Γ [] w ∧ I64 top_10 ∧ True) ?_ ?_
    · skip
      refine WC.block ?_
      refine WC.rs ?_
      refine va rfl rfl rfl (q_ixn (i := i4) Tryz.underlying113 Tryz.sizeOf117 rfl rfl rfl hl9 (hl.some_ hl9)) ?_
      refine va rfl rfl rfl (q_lda (c := 0) (vs := [.int .i64 (gt l i4).s, .int .i64 (gt l i4).f, .int .i64 (gt l i4).t]) (hl.spanT_at hl9).2 rfl Tryz.isAgg117 Tryz.sizeOf117 rfl rfl rfl) ?_
      refine e_alloc Tryz.zeroValue117 rfl rfl rfl rfl ?_
      intro g12
      refine e_st (i := 0) (v := .agg #[.int .i64 (gt l i4).s, .int .i64 (gt l i4).f, .int .i64 (gt l i4).t]) (new := #[.int .i64 (gt l i4).s, .int .i64 (gt l i4).f, .int .i64 (gt l i4).t]) rfl Tryz.sizeOf117 rfl rfl rfl rfl (by kernel_rfl) rfl rfl rfl rfl ?_
      refine WR.nil ?_
      change WC _ _ _ _ _ _
      refine WC.rs ?_
      refine va rfl rfl rfl (q_fl 0 fld_117_0 rfl rfl rfl) ?_
      refine va rfl rfl rfl (q_ldl (i := 0) (v := .int .i64 (gt l i4).s) rfl rfl Tryz.isAgg3 rfl rfl) ?_
      refine va rfl rfl rfl (q_move (v := .int .i64 s_) rfl (by kernel_rfl)) ?_
      refine va rfl rfl rfl (q_eql rfl rfl rfl) ?_
      refine WR.nil ?_
      change WC _ _ _ _ _ _
      refine WC.cif h (by kernel_rfl) (fun hb13 h => ?_) (fun hb13 h => ?_)
      · skip
        refine WC.region ?_
        refine va rfl rfl rfl (q_move (v := .int .i64 top_1) rfl (by kernel_rfl)) ?_
        refine va rfl rfl rfl (q_fl 2 fld_117_2 rfl rfl rfl) ?_
        refine va rfl rfl rfl (q_ldl (i := 0) (v := .int .i64 (gt l i4).t) rfl rfl Tryz.isAgg2 rfl rfl) ?_
        refine va rfl rfl rfl (q_max rfl rfl rfl) ?_
        refine va rfl rfl rfl (q_assign (v := .int .i64 (max top_1 (gt l i4).t)) rfl (by kernel_rfl)) ?_
        refine WR.nil ?_
        intro w hw
        exact ⟨(max top_1 (gt l i4).t), h, (sl_ (by kernel_rfl)), (hw.only (is := []) rfl), (max_r hr2 (hl.spanT_at hl9).1.2.2), trivial⟩
      · skip
        refine WC.skip ?_
        intro w hw
        exact ⟨top_1, h, (sl_ (by kernel_rfl)), (hw.only (is := []) rfl), hr2, trivial⟩
    · skip
      rintro σ w ⟨top_10, h, hsl, hw, hr11, -⟩
      refine Wpt.slots hsl ?_
      refine WC.here (C := CC F Γ []) ?_ hw
      clear hw hsl
      refine WC.region ?_
      refine va rfl rfl rfl (q_add_r (r := ((i4 + 1 : Nat) : Int)) rfl rfl rfl (ctr_len hl9 hl.le)) ?_
      refine va rfl rfl rfl (q_move (v := .int .i64 ((i4 + 1 : Nat) : Int)) rfl (by kernel_rfl)) ?_
      refine WR.nil ?_
      intro w hw
      exact ⟨hl9, top_10, h, (sl_ (by kernel_rfl)), hw, hr11, trivial⟩
  · skip
    have h := hge7 (ige hb8)
    refine WC.exit ?_
    change WC _ _ _ _ _ _
    refine WC.rs ?_
    refine va rfl rfl rfl (q_move (v := .int .i64 top_1) rfl (by kernel_rfl)) ?_
    refine va rfl rfl rfl (q_assign (v := .int .i64 top_1) rfl (by kernel_rfl)) ?_
    refine WR.nil ?_
    change WC _ _ _ _ _ _
    refine WC.ret ?_
    intro w hw
    obtain rfl := Option.some.inj h
    subst hF
    exact ⟨by kernel_rfl, hw.fr⟩
set_option maxRecDepth 100000 in
set_option maxHeartbeats 400000 in
theorem t_vers_RightOne {Γ : Gh} {w0 : World} {Av_2 : Option Addr} {cv_2 : Nat} (v_ : Ver) (hv_ : Ver.fits Γ Av_2 cv_2 v_) (hs : Sat Γ w0) {r : Bool} (h : m_vers_RightOne v_ = some r) : Calls Tryz.prog 113 #[.agg #[.int .i64 v_.dot.s, .int .i64 v_.dot.n, .slice Av_2 v_.past.length cv_2, .bool v_.gone, .string v_.val]] w0 (fun e w' => e = .returned (.bool r) ∧ Fr no w0 w') := by
  refine calls_of (N := 50) (rs := [2]) (args := [.agg #[.int .i64 v_.dot.s, .int .i64 v_.dot.n, .slice Av_2 v_.past.length cv_2, .bool v_.gone, .string v_.val]]) Tryz.func113 rfl Tryz.ntmps113 Tryz.results113 rfl ?_
  obtain ⟨F, hF⟩ : ∃ F : Fm, F = ⟨no, w0, Γ⟩ := ⟨_, rfl⟩
  refine WC.here (C := CC F Γ []) ?_ (hF ▸ Cur.start0 hs)
  refine WC.rs ?_
  refine e_box (v := .agg #[.int .i64 v_.dot.s, .int .i64 v_.dot.n, .slice Av_2 v_.past.length cv_2, .bool v_.gone, .string v_.val]) rfl rfl rfl rfl (by kernel_rfl) ?_
  intro g1
  refine va rfl rfl rfl (q_assign (v := .bool false) rfl (by kernel_rfl)) ?_
  refine WR.nil ?_
  change WC _ _ _ _ _ _
  refine WC.rs ?_
  refine va rfl rfl rfl (q_fl 0 fld_115_0 rfl rfl rfl) ?_
  refine va rfl rfl rfl (q_fl 0 fld_112_0 rfl rfl rfl) ?_
  refine va rfl rfl rfl (q_ldl (i := 0) (v := .int .i64 v_.dot.s) rfl rfl Tryz.isAgg3 rfl rfl) ?_
  refine va rfl rfl rfl (q_fl 0 fld_115_0 rfl rfl rfl) ?_
  refine va rfl rfl rfl (q_fl 1 fld_112_1 rfl rfl rfl) ?_
  refine va rfl rfl rfl (q_ldl (i := 0) (v := .int .i64 v_.dot.n) rfl rfl Tryz.isAgg2 rfl rfl) ?_
  refine va rfl rfl rfl (q_fl 0 fld_115_0 rfl rfl rfl) ?_
  refine va rfl rfl rfl (q_fl 1 fld_112_1 rfl rfl rfl) ?_
  refine va rfl rfl rfl (q_ldl (i := 0) (v := .int .i64 v_.dot.n) rfl rfl Tryz.isAgg2 rfl rfl) ?_
  refine va rfl rfl rfl (q_build' (v := .agg #[.int .i64 v_.dot.s, .int .i64 v_.dot.n, .int .i64 v_.dot.n]) rfl (bargs3 rfl rfl rfl) (fun w => by kernel_rfl)) ?_
  refine e_alloc Tryz.zeroValue117 rfl rfl rfl rfl ?_
  intro g2
  refine e_st (i := 0) (v := .agg #[.int .i64 v_.dot.s, .int .i64 v_.dot.n, .int .i64 v_.dot.n]) (new := #[.int .i64 v_.dot.s, .int .i64 v_.dot.n, .int .i64 v_.dot.n]) rfl Tryz.sizeOf117 rfl rfl rfl rfl (by kernel_rfl) rfl rfl rfl rfl ?_
  refine WR.nil ?_
  change WC _ _ _ _ _ _
  refine WC.seq ?_
  intro w hw; have h03 := hw.le
  refine WC.here (C := CC F Γ [[(g2, .cells #[.int .i64 v_.dot.s, .int .i64 v_.dot.n, .int .i64 v_.dot.n] 117 (0, 0))], [(g1, .cells #[.int .i64 v_.dot.s, .int .i64 v_.dot.n, .slice Av_2 v_.past.length cv_2, .bool v_.gone, .string v_.val] 115 (0, 0))]]) ?_ hw; clear hw
  refine WC.held (CC F Γ [[(g2, .cells #[.int .i64 v_.dot.s, .int .i64 v_.dot.n, .int .i64 v_.dot.n] 117 (0, 0))], [(g1, .cells #[.int .i64 v_.dot.s, .int .i64 v_.dot.n, .slice Av_2 v_.past.length cv_2, .bool v_.gone, .string v_.val] 115 (0, 0))]]) (by kernel_rfl) (fun w hw => hw.drawn _) ?_
  change WH _ _ _ _ (CC F Γ [[(g2, .cells #[.int .i64 v_.dot.s, .int .i64 v_.dot.n, .int .i64 v_.dot.n] 117 (0, 0))], [(g1, .cells #[.int .i64 v_.dot.s, .int .i64 v_.dot.n, .slice Av_2 v_.past.length cv_2, .bool v_.gone, .string v_.val] 115 (0, 0))]]) _ 37 #[false, false, false, false, false, false, false, false, false, false, false, false, false, false, false, false, false, false, false, false, false, false, false, false, false, false, false, false, false, false, false, false, false, false, false, false, false] _
  refine ht (i := 0) rfl (by kernel_rfl) rfl rfl rfl (fun w hw => hw.back (Gh.refl _) h03 (.cons_cons _ (.cons_cons _ .slnil))) (q_ldla (i := 0) (vs := [.int .i64 v_.dot.s, .int .i64 v_.dot.n, .int .i64 v_.dot.n]) rfl rfl Tryz.isAgg117 Tryz.sizeOf117 rfl rfl) ?_
  refine WH.lone (i := 1) (by kernel_rfl) rfl ?_
  refine e_buildSlice (cs := #[.int .i64 v_.dot.s, .int .i64 v_.dot.n, .int .i64 v_.dot.n]) (e := 117) rfl rfl rfl rfl (fun w => by kernel_rfl) ?_
  intro g4
  refine WR.nil ?_
  refine WH.next (fun w hw => hw.back (Gh.refl _) h03 (.cons _ (.cons_cons _ (.cons_cons _ .slnil)))) ?_
  refine WH.lone (i := 2) (by kernel_rfl) rfl ?_
  have ho5 : Own spanT Γ 117 [(g4, .cells #[.int .i64 v_.dot.s, .int .i64 v_.dot.n, .int .i64 v_.dot.n] 117 (0, 0))] (some ⟨g4, 0, none⟩) 1 [(⟨v_.dot.s, v_.dot.n, v_.dot.n⟩ : Span)] := Own.of_blockL (T := spanT) (ys := [(⟨v_.dot.s, v_.dot.n, v_.dot.n⟩ : Span)]) [[.int .i64 v_.dot.s, .int .i64 v_.dot.n, .int .i64 v_.dot.n]] rfl (show 1 ≤ lim by decide) (show Ty.rd spanT Γ [.int .i64 v_.dot.s, .int .i64 v_.dot.n, .int .i64 v_.dot.n] (⟨v_.dot.s, v_.dot.n, v_.dot.n⟩ : Span) ∧ True from ⟨⟨rfl, ⟨hv_.1, hv_.2.1, hv_.2.1⟩⟩, trivial⟩)
  obtain ⟨z6, hz7, h⟩ := bnd h
  refine vc rfl rfl rfl (q_call (call_run Tryz.call137 rfl rfl (by kernel_rfl)) (fun w hw => t_span_Right (Γ := Gh.all w) (ho5.sl hw.sat.le_all (hw.ra 0 rfl)) ho5.capz (Sat.all w) hz7)) ?_
  refine WR.nil ?_
  refine WH.next (fun w hw => hw.back (Gh.refl _) h03 (.cons _ (.cons_cons _ (.cons_cons _ .slnil)))) ?_
  refine ht (i := 3) rfl (by kernel_rfl) rfl rfl rfl (fun w hw => hw.back (Gh.refl _) h03 (.cons _ (.cons_cons _ (.cons_cons _ .slnil)))) (q_move (v := .bool z6) rfl (by kernel_rfl)) ?_
  refine hg1 (i := 4) rfl (by kernel_rfl) rfl rfl rfl rfl rfl (fun w hw => hw.back (Gh.refl _) h03 (.cons _ (.cons_cons _ (.cons_cons _ .slnil)))) (fun hg8 => (q_fl 2 fld_115_1 rfl rfl rfl)) ?_
  refine hg1 (i := 5) rfl (by kernel_rfl) rfl rfl rfl rfl rfl (fun w hw => hw.back (Gh.refl _) h03 (.cons _ (.cons_cons _ (.cons_cons _ .slnil)))) (fun hg9 => (q_ldl (i := 1) (v := .slice Av_2 v_.past.length cv_2) rfl rfl Tryz.isAgg113 (gu hg9 rfl) rfl)) ?_
  refine WH.lone (i := 6) (by kernel_rfl) rfl ?_
  obtain ⟨z11, hz12, h⟩ := bnd h
  refine vg1 rfl rfl rfl rfl rfl (fun hg10 => (q_call (call_run Tryz.call137 rfl rfl (args1 (gu hg10 rfl))) (fun w hw => t_span_Right (Γ := Gh.all w) (hv_.2.2.1.2.mono hw.sat.le_all) hv_.2.2.1.1 (Sat.all w) (gc_of hz12 hg10)))) ?_
  refine WR.nil ?_
  refine WH.next (fun w hw => hw.back (Gh.refl _) h03 (.cons _ (.cons_cons _ (.cons_cons _ .slnil)))) ?_
  refine ht (i := 7) rfl (by kernel_rfl) rfl rfl rfl (fun w hw => hw.back (Gh.refl _) h03 (.cons _ (.cons_cons _ (.cons_cons _ .slnil)))) (q_pick rfl rfl (pk_and' (g := z6) (y := z11))) ?_
  refine ht (i := 8) rfl (by kernel_rfl) rfl rfl rfl (fun w hw => hw.back (Gh.refl _) h03 (.cons _ (.cons_cons _ (.cons_cons _ .slnil)))) (q_move (v := .bool (z6 && z11)) rfl (by kernel_rfl)) ?_
  refine hg1 (i := 9) rfl (by kernel_rfl) rfl rfl rfl rfl rfl (fun w hw => hw.back (Gh.refl _) h03 (.cons _ (.cons_cons _ (.cons_cons _ .slnil)))) (fun hg13 => (q_fl 2 fld_115_1 rfl rfl rfl)) ?_
  refine hg1 (i := 10) rfl (by kernel_rfl) rfl rfl rfl rfl rfl (fun w hw => hw.back (Gh.refl _) h03 (.cons _ (.cons_cons _ (.cons_cons _ .slnil)))) (fun hg14 => (q_ldl (i := 1) (v := .slice Av_2 v_.past.length cv_2) rfl rfl Tryz.isAgg113 (gu hg14 rfl) rfl)) ?_
  refine hg1 (i := 11) rfl (by kernel_rfl) rfl rfl rfl rfl rfl (fun w hw => hw.back (Gh.refl _) h03 (.cons _ (.cons_cons _ (.cons_cons _ .slnil)))) (fun hg15 => (q_fl 0 fld_115_0 rfl rfl rfl)) ?_
  refine hg1 (i := 12) rfl (by kernel_rfl) rfl rfl rfl rfl rfl (fun w hw => hw.back (Gh.refl _) h03 (.cons _ (.cons_cons _ (.cons_cons _ .slnil)))) (fun hg16 => (q_fl 0 fld_112_0 rfl (gu hg16 rfl) rfl)) ?_
  refine hg1 (i := 13) rfl (by kernel_rfl) rfl rfl rfl rfl rfl (fun w hw => hw.back (Gh.refl _) h03 (.cons _ (.cons_cons _ (.cons_cons _ .slnil)))) (fun hg17 => (q_ldl (i := 1) (v := .int .i64 v_.dot.s) rfl rfl Tryz.isAgg3 (gu hg17 rfl) rfl)) ?_
  refine hg1 (i := 15) rfl (by kernel_rfl) rfl rfl rfl rfl rfl (fun w hw => hw.back (Gh.refl _) h03 (.cons _ (.cons_cons _ (.cons_cons _ .slnil)))) (fun hg18 => (q_fl 0 fld_115_0 rfl rfl rfl)) ?_
  refine hg1 (i := 16) rfl (by kernel_rfl) rfl rfl rfl rfl rfl (fun w hw => hw.back (Gh.refl _) h03 (.cons _ (.cons_cons _ (.cons_cons _ .slnil)))) (fun hg19 => (q_fl 1 fld_112_1 rfl (gu hg19 rfl) rfl)) ?_
  refine hg1 (i := 17) rfl (by kernel_rfl) rfl rfl rfl rfl rfl (fun w hw => hw.back (Gh.refl _) h03 (.cons _ (.cons_cons _ (.cons_cons _ .slnil)))) (fun hg20 => (q_ldl (i := 1) (v := .int .i64 v_.dot.n) rfl rfl Tryz.isAgg2 (gu hg20 rfl) rfl)) ?_
  refine WH.lone (i := 14) (by kernel_rfl) rfl ?_
  obtain ⟨z22, hz23, h⟩ := bnd h
  refine vg1 rfl rfl rfl rfl rfl (fun hg21 => (q_call (call_run Tryz.call138 rfl rfl (args2 (gu hg21 rfl) (gu hg21 rfl))) (fun w hw => t_span_Top (Γ := Gh.all w) (hv_.2.2.1.2.mono hw.sat.le_all) hv_.2.2.1.1 v_.dot.s hv_.1 (Sat.all w) (gc_of hz23 hg21)))) ?_
  refine WR.nil ?_
  refine WH.next (fun w hw => hw.back (Gh.refl _) h03 (.cons _ (.cons_cons _ (.cons_cons _ .slnil)))) ?_
  refine hg1 (i := 18) rfl (by kernel_rfl) rfl rfl rfl rfl rfl (fun w hw => hw.back (Gh.refl _) h03 (.cons _ (.cons_cons _ (.cons_cons _ .slnil)))) (fun hg24 => (q_lss rfl (gu hg24 rfl) (gu hg24 rfl))) ?_
  refine ht (i := 19) rfl (by kernel_rfl) rfl rfl rfl (fun w hw => hw.back (Gh.refl _) h03 (.cons _ (.cons_cons _ (.cons_cons _ .slnil)))) (q_pick rfl rfl (pk_and' (g := (z6 && z11)) (y := (decide (z22 < v_.dot.n))))) ?_
  refine ht (i := 20) rfl (by kernel_rfl) rfl rfl rfl (fun w hw => hw.back (Gh.refl _) h03 (.cons _ (.cons_cons _ (.cons_cons _ .slnil)))) (q_move (v := .bool ((z6 && z11) && (decide (z22 < v_.dot.n)))) rfl (by kernel_rfl)) ?_
  refine hg1 (i := 21) rfl (by kernel_rfl) rfl rfl rfl rfl rfl (fun w hw => hw.back (Gh.refl _) h03 (.cons _ (.cons_cons _ (.cons_cons _ .slnil)))) (fun hg25 => (q_fl 4 fld_115_3 rfl rfl rfl)) ?_
  refine hg1 (i := 22) rfl (by kernel_rfl) rfl rfl rfl rfl rfl (fun w hw => hw.back (Gh.refl _) h03 (.cons _ (.cons_cons _ (.cons_cons _ .slnil)))) (fun hg26 => (q_ldl (i := 1) (v := .string v_.val) rfl rfl Tryz.isAgg9 (gu hg26 rfl) rfl)) ?_
  refine hg1 (i := 23) rfl (by kernel_rfl) rfl rfl rfl rfl rfl (fun w hw => hw.back (Gh.refl _) h03 (.cons _ (.cons_cons _ (.cons_cons _ .slnil)))) (fun hg27 => (q_len_str rfl Tryz.underlying9 (gu hg27 rfl))) ?_
  refine hg1 (i := 24) rfl (by kernel_rfl) rfl rfl rfl rfl rfl (fun w hw => hw.back (Gh.refl _) h03 (.cons _ (.cons_cons _ (.cons_cons _ .slnil)))) (fun hg28 => (q_leq rfl (gu hg28 rfl) rfl)) ?_
  refine ht (i := 25) rfl (by kernel_rfl) rfl rfl rfl (fun w hw => hw.back (Gh.refl _) h03 (.cons _ (.cons_cons _ (.cons_cons _ .slnil)))) (q_pick rfl rfl (pk_and' (g := ((z6 && z11) && (decide (z22 < v_.dot.n)))) (y := (decide (((v_.val.size : Nat) : Int) ≤ 256))))) ?_
  refine ht (i := 26) rfl (by kernel_rfl) rfl rfl rfl (fun w hw => hw.back (Gh.refl _) h03 (.cons _ (.cons_cons _ (.cons_cons _ .slnil)))) (q_move (v := .bool (((z6 && z11) && (decide (z22 < v_.dot.n))) && (decide (((v_.val.size : Nat) : Int) ≤ 256)))) rfl (by kernel_rfl)) ?_
  refine hg1 (i := 27) rfl (by kernel_rfl) rfl rfl rfl rfl rfl (fun w hw => hw.back (Gh.refl _) h03 (.cons _ (.cons_cons _ (.cons_cons _ .slnil)))) (fun hg29 => (q_fl 3 fld_115_2 rfl rfl rfl)) ?_
  refine hg1 (i := 28) rfl (by kernel_rfl) rfl rfl rfl rfl rfl (fun w hw => hw.back (Gh.refl _) h03 (.cons _ (.cons_cons _ (.cons_cons _ .slnil)))) (fun hg30 => (q_ldl (i := 1) (v := .bool v_.gone) rfl rfl Tryz.isAgg4 (gu hg30 rfl) rfl)) ?_
  refine hg1 (i := 29) rfl (by kernel_rfl) rfl rfl rfl rfl rfl (fun w hw => hw.back (Gh.refl _) h03 (.cons _ (.cons_cons _ (.cons_cons _ .slnil)))) (fun hg31 => (q_not rfl (gu hg31 rfl))) ?_
  refine hg1 (i := 30) rfl (by kernel_rfl) rfl rfl rfl rfl rfl (fun w hw => hw.back (Gh.refl _) h03 (.cons _ (.cons_cons _ (.cons_cons _ .slnil)))) (fun hg32 => (q_move (v := .bool (!v_.gone)) rfl (gu hg32 rfl))) ?_
  refine hh0 (c0 := (((z6 && z11) && (decide (z22 < v_.dot.n))) && (decide (((v_.val.size : Nat) : Int) ≤ 256)))) (g := (!v_.gone)) (i := 31) rfl (by kernel_rfl) rfl rfl rfl rfl rfl (fun w hw => hw.back (Gh.refl _) h03 (.cons _ (.cons_cons _ (.cons_cons _ .slnil)))) (fun hg33 => (q_fl 4 fld_115_3 rfl rfl rfl)) ?_
  refine hh0 (c0 := (((z6 && z11) && (decide (z22 < v_.dot.n))) && (decide (((v_.val.size : Nat) : Int) ≤ 256)))) (g := (!v_.gone)) (i := 32) rfl (by kernel_rfl) rfl rfl rfl rfl rfl (fun w hw => hw.back (Gh.refl _) h03 (.cons _ (.cons_cons _ (.cons_cons _ .slnil)))) (fun hg34 => (q_ldl (i := 1) (v := .string v_.val) rfl rfl Tryz.isAgg9 (gu hg34 rfl) rfl)) ?_
  refine hh0 (c0 := (((z6 && z11) && (decide (z22 < v_.dot.n))) && (decide (((v_.val.size : Nat) : Int) ≤ 256)))) (g := (!v_.gone)) (i := 33) rfl (by kernel_rfl) rfl rfl rfl rfl rfl (fun w hw => hw.back (Gh.refl _) h03 (.cons _ (.cons_cons _ (.cons_cons _ .slnil)))) (fun hg35 => (q_seql rfl (gu hg35 rfl) rfl)) ?_
  refine hg1 (i := 34) rfl (by kernel_rfl) rfl rfl rfl rfl rfl (fun w hw => hw.back (Gh.refl _) h03 (.cons _ (.cons_cons _ (.cons_cons _ .slnil)))) (fun hg36 => (q_pick rfl (gu hg36 rfl) (pk_or (c := (((z6 && z11) && (decide (z22 < v_.dot.n))) && (decide (((v_.val.size : Nat) : Int) ≤ 256)))) (g := (!v_.gone)) (y := (v_.val == ByteArray.empty)) hg36))) ?_
  refine ht (i := 35) rfl (by kernel_rfl) rfl rfl rfl (fun w hw => hw.back (Gh.refl _) h03 (.cons _ (.cons_cons _ (.cons_cons _ .slnil)))) (q_pick rfl rfl (pk_and' (g := (((z6 && z11) && (decide (z22 < v_.dot.n))) && (decide (((v_.val.size : Nat) : Int) ≤ 256)))) (y := ((!v_.gone) || (v_.val == ByteArray.empty))))) ?_
  refine ht (i := 36) rfl (by kernel_rfl) rfl rfl rfl (fun w hw => hw.back (Gh.refl _) h03 (.cons _ (.cons_cons _ (.cons_cons _ .slnil)))) (q_assign (v := .bool ((((z6 && z11) && (decide (z22 < v_.dot.n))) && (decide (((v_.val.size : Nat) : Int) ≤ 256))) && ((!v_.gone) || (v_.val == ByteArray.empty)))) rfl (by kernel_rfl)) ?_
  refine WH.done (by kernel_rfl) ?_
  change WC _ _ _ _ _ _
  refine WC.ret ?_
  intro w hw
  obtain rfl := Option.some.inj h
  subst hF
  exact ⟨by kernel_rfl, hw.fr⟩
set_option maxRecDepth 100000 in
set_option maxHeartbeats 400000 in
theorem t_vers_before {Γ : Gh} {w0 : World} (a : Dot) (ha : Dot.fits Γ  a) (b : Dot) (hb : Dot.fits Γ  b) (hs : Sat Γ w0) {r : Bool} (h : m_vers_before a b = some r) : Calls Tryz.prog 114 #[.agg #[.int .i64 a.s, .int .i64 a.n], .agg #[.int .i64 b.s, .int .i64 b.n]] w0 (fun e w' => e = .returned (.bool r) ∧ Fr no w0 w') := by
  refine calls_of (N := 24) (rs := [4]) (args := [.agg #[.int .i64 a.s, .int .i64 a.n], .agg #[.int .i64 b.s, .int .i64 b.n]]) Tryz.func114 rfl Tryz.ntmps114 Tryz.results114 rfl ?_
  obtain ⟨F, hF⟩ : ∃ F : Fm, F = ⟨no, w0, Γ⟩ := ⟨_, rfl⟩
  refine WC.here (C := CC F Γ []) ?_ (hF ▸ Cur.start0 hs)
  refine WC.rs ?_
  refine e_box (v := .agg #[.int .i64 a.s, .int .i64 a.n]) rfl rfl rfl rfl (by kernel_rfl) ?_
  intro g1
  refine e_box (v := .agg #[.int .i64 b.s, .int .i64 b.n]) rfl rfl rfl rfl (by kernel_rfl) ?_
  intro g2
  refine va rfl rfl rfl (q_assign (v := .bool false) rfl (by kernel_rfl)) ?_
  refine WR.nil ?_
  change WC _ _ _ _ _ _
  refine WC.rs ?_
  refine va rfl rfl rfl (q_fl 0 fld_112_0 rfl rfl rfl) ?_
  refine va rfl rfl rfl (q_ldl (i := 1) (v := .int .i64 a.s) rfl rfl Tryz.isAgg3 rfl rfl) ?_
  refine va rfl rfl rfl (q_fl 0 fld_112_0 rfl rfl rfl) ?_
  refine va rfl rfl rfl (q_ldl (i := 0) (v := .int .i64 b.s) rfl rfl Tryz.isAgg3 rfl rfl) ?_
  refine va rfl rfl rfl (q_lss rfl rfl rfl) ?_
  refine va rfl rfl rfl (q_move (v := .bool (decide (a.s < b.s))) rfl (by kernel_rfl)) ?_
  refine vg0 rfl rfl rfl rfl rfl (fun hg3 => QV.qo (q_fl 0 fld_112_0 rfl rfl rfl)) ?_
  refine vg0 rfl rfl rfl rfl rfl (fun hg4 => QV.qo (q_ldl (i := 1) (v := .int .i64 a.s) rfl rfl Tryz.isAgg3 (gu hg4 rfl) rfl)) ?_
  refine vg0 rfl rfl rfl rfl rfl (fun hg5 => QV.qo (q_fl 0 fld_112_0 rfl rfl rfl)) ?_
  refine vg0 rfl rfl rfl rfl rfl (fun hg6 => QV.qo (q_ldl (i := 0) (v := .int .i64 b.s) rfl rfl Tryz.isAgg3 (gu hg6 rfl) rfl)) ?_
  refine vg0 rfl rfl rfl rfl rfl (fun hg7 => QV.qo (q_eql rfl (gu hg7 rfl) (gu hg7 rfl))) ?_
  refine vg0 rfl rfl rfl rfl rfl (fun hg8 => QV.qo (q_move (v := .bool (a.s == b.s)) rfl (gu hg8 rfl))) ?_
  refine vh1 (c0 := (!(decide (a.s < b.s)))) (g := (a.s == b.s)) rfl rfl rfl rfl rfl (fun hg9 => QV.qo (q_fl 1 fld_112_1 rfl rfl rfl)) ?_
  refine vh1 (c0 := (!(decide (a.s < b.s)))) (g := (a.s == b.s)) rfl rfl rfl rfl rfl (fun hg10 => QV.qo (q_ldl (i := 1) (v := .int .i64 a.n) rfl rfl Tryz.isAgg2 (gu hg10 rfl) rfl)) ?_
  refine vh1 (c0 := (!(decide (a.s < b.s)))) (g := (a.s == b.s)) rfl rfl rfl rfl rfl (fun hg11 => QV.qo (q_fl 1 fld_112_1 rfl rfl rfl)) ?_
  refine vh1 (c0 := (!(decide (a.s < b.s)))) (g := (a.s == b.s)) rfl rfl rfl rfl rfl (fun hg12 => QV.qo (q_ldl (i := 0) (v := .int .i64 b.n) rfl rfl Tryz.isAgg2 (gu hg12 rfl) rfl)) ?_
  refine vh1 (c0 := (!(decide (a.s < b.s)))) (g := (a.s == b.s)) rfl rfl rfl rfl rfl (fun hg13 => QV.qo (q_lss rfl (gu hg13 rfl) (gu hg13 rfl))) ?_
  refine vg0 rfl rfl rfl rfl rfl (fun hg14 => QV.qo (q_pick rfl (gu hg14 rfl) (pk_and (c := (!(decide (a.s < b.s)))) (g := (a.s == b.s)) (y := (decide (a.n < b.n))) hg14))) ?_
  refine va rfl rfl rfl (q_pick rfl rfl (pk_or' (g := (decide (a.s < b.s))) (y := ((a.s == b.s) && (decide (a.n < b.n)))))) ?_
  refine va rfl rfl rfl (q_assign (v := .bool ((decide (a.s < b.s)) || ((a.s == b.s) && (decide (a.n < b.n))))) rfl (by kernel_rfl)) ?_
  refine WR.nil ?_
  change WC _ _ _ _ _ _
  refine WC.ret ?_
  intro w hw
  obtain rfl := Option.some.inj h
  subst hF
  exact ⟨by kernel_rfl, hw.fr⟩
set_option maxRecDepth 100000 in
set_option maxHeartbeats 400000 in
theorem t_span_Has {Γ : Gh} {w0 : World} {Al : Option Addr} {cl : Nat} {l : List Span} (hl : Sl spanT Γ Al l) (hlc : l.length ≤ cl) (d : Dot) (hd : Dot.fits Γ  d) (hs : Sat Γ w0) {r : Bool} (h : m_span_Has l d = some r) : Calls Tryz.prog 139 #[.slice Al l.length cl, .agg #[.int .i64 d.s, .int .i64 d.n]] w0 (fun e w' => e = .returned (.bool r) ∧ Fr no w0 w') := by
  refine calls_of (N := 33) (rs := [4]) (args := [.slice Al l.length cl, .agg #[.int .i64 d.s, .int .i64 d.n]]) Tryz.func139 rfl Tryz.ntmps139 Tryz.results139 rfl ?_
  obtain ⟨F, hF⟩ : ∃ F : Fm, F = ⟨no, w0, Γ⟩ := ⟨_, rfl⟩
  refine WC.here (C := CC F Γ []) ?_ (hF ▸ Cur.start0 hs)
  refine WC.rs ?_
  refine e_box (v := .agg #[.int .i64 d.s, .int .i64 d.n]) rfl rfl rfl rfl (by kernel_rfl) ?_
  intro g1
  refine va rfl rfl rfl (q_assign (v := .bool false) rfl (by kernel_rfl)) ?_
  refine WR.nil ?_
  change WC _ _ _ _ _ _
  refine WC.seq ?_
  refine WC.rs ?_
  refine va rfl rfl rfl (q_move (v := .slice Al l.length cl) rfl (by kernel_rfl)) ?_
  refine va rfl rfl rfl (q_len_slice rfl Tryz.underlying113 rfl) ?_
  refine va rfl rfl rfl (q_move (v := .int .i64 0) rfl (by kernel_rfl)) ?_
  refine WR.nil ?_
  change WC _ _ _ _ _ _
  refine WC.block ?_
  refine WC.forI h (fun (i3 : Nat) (s : Unit) σ w => match s with | () => slots σ [(3, .pointer (some ⟨g1, 0, none⟩)), (7, .slice Al l.length cl), (8, .int .i64 ((l.length : Nat) : Int)), (9, .int .i64 ((i3 : Nat) : Int))] ∧ CC F Γ [[(g1, .cells #[.int .i64 d.s, .int .i64 d.n] 112 (0, 0))]] w ∧ True) ?_ ?_
  · skip
    intro w hw
    exact ⟨(sl_ (by kernel_rfl)), hw, trivial⟩
  rintro f2 i3 ⟨⟩ σ w hi4 hlt5 hge6 ⟨hsl, hw, -⟩
  refine Wpt.slots hsl ?_
  refine WC.here (C := CC F Γ [[(g1, .cells #[.int .i64 d.s, .int .i64 d.n] 112 (0, 0))]]) ?_ hw
  clear hw hsl
  refine WC.rs ?_
  refine va rfl rfl rfl (q_lss rfl rfl rfl) ?_
  refine WR.nil ?_
  change WC _ _ _ _ _ _
  refine WC.seq ?_
  refine WC.cond (b := (decide (((i3 : Nat) : Int) < ((l.length : Nat) : Int)))) (by kernel_rfl) (fun hb7 => ?_) (fun hb7 => ?_)
  · skip
    have hl8 := ilt hb7
    have h := hlt5 hl8
    refine WC.skip ?_
    change WC _ _ _ _ _ _
    refine WC.seq ?_
    refine WC.block ?_
    refine WC.rs ?_
    refine va rfl rfl rfl (q_ixn (i := i3) Tryz.underlying113 Tryz.sizeOf117 rfl rfl rfl hl8 (hl.some_ hl8)) ?_
    refine va rfl rfl rfl (q_lda (c := 0) (vs := [.int .i64 (gt l i3).s, .int .i64 (gt l i3).f, .int .i64 (gt l i3).t]) (hl.spanT_at hl8).2 rfl Tryz.isAgg117 Tryz.sizeOf117 rfl rfl rfl) ?_
    refine e_alloc Tryz.zeroValue117 rfl rfl rfl rfl ?_
    intro g9
    refine e_st (i := 0) (v := .agg #[.int .i64 (gt l i3).s, .int .i64 (gt l i3).f, .int .i64 (gt l i3).t]) (new := #[.int .i64 (gt l i3).s, .int .i64 (gt l i3).f, .int .i64 (gt l i3).t]) rfl Tryz.sizeOf117 rfl rfl rfl rfl (by kernel_rfl) rfl rfl rfl rfl ?_
    refine WR.nil ?_
    change WC _ _ _ _ _ _
    refine WC.rs ?_
    refine va rfl rfl rfl (q_fl 0 fld_117_0 rfl rfl rfl) ?_
    refine va rfl rfl rfl (q_ldl (i := 0) (v := .int .i64 (gt l i3).s) rfl rfl Tryz.isAgg3 rfl rfl) ?_
    refine va rfl rfl rfl (q_fl 0 fld_112_0 rfl rfl rfl) ?_
    refine va rfl rfl rfl (q_ldl (i := 1) (v := .int .i64 d.s) rfl rfl Tryz.isAgg3 rfl rfl) ?_
    refine va rfl rfl rfl (q_eql rfl rfl rfl) ?_
    refine va rfl rfl rfl (q_move (v := .bool ((gt l i3).s == d.s)) rfl (by kernel_rfl)) ?_
    refine vg1 rfl rfl rfl rfl rfl (fun hg10 => QV.qo (q_fl 1 fld_117_1 rfl rfl rfl)) ?_
    refine vg1 rfl rfl rfl rfl rfl (fun hg11 => QV.qo (q_ldl (i := 0) (v := .int .i64 (gt l i3).f) rfl rfl Tryz.isAgg2 (gu hg11 rfl) rfl)) ?_
    refine vg1 rfl rfl rfl rfl rfl (fun hg12 => QV.qo (q_fl 1 fld_112_1 rfl rfl rfl)) ?_
    refine vg1 rfl rfl rfl rfl rfl (fun hg13 => QV.qo (q_ldl (i := 1) (v := .int .i64 d.n) rfl rfl Tryz.isAgg2 (gu hg13 rfl) rfl)) ?_
    refine vg1 rfl rfl rfl rfl rfl (fun hg14 => QV.qo (q_leq rfl (gu hg14 rfl) (gu hg14 rfl))) ?_
    refine va rfl rfl rfl (q_pick rfl rfl (pk_and' (g := ((gt l i3).s == d.s)) (y := (decide ((gt l i3).f ≤ d.n))))) ?_
    refine va rfl rfl rfl (q_move (v := .bool (((gt l i3).s == d.s) && (decide ((gt l i3).f ≤ d.n)))) rfl (by kernel_rfl)) ?_
    refine vg1 rfl rfl rfl rfl rfl (fun hg15 => QV.qo (q_fl 1 fld_112_1 rfl rfl rfl)) ?_
    refine vg1 rfl rfl rfl rfl rfl (fun hg16 => QV.qo (q_ldl (i := 1) (v := .int .i64 d.n) rfl rfl Tryz.isAgg2 (gu hg16 rfl) rfl)) ?_
    refine vg1 rfl rfl rfl rfl rfl (fun hg17 => QV.qo (q_fl 2 fld_117_2 rfl rfl rfl)) ?_
    refine vg1 rfl rfl rfl rfl rfl (fun hg18 => QV.qo (q_ldl (i := 0) (v := .int .i64 (gt l i3).t) rfl rfl Tryz.isAgg2 (gu hg18 rfl) rfl)) ?_
    refine vg1 rfl rfl rfl rfl rfl (fun hg19 => QV.qo (q_leq rfl (gu hg19 rfl) (gu hg19 rfl))) ?_
    refine va rfl rfl rfl (q_pick rfl rfl (pk_and' (g := (((gt l i3).s == d.s) && (decide ((gt l i3).f ≤ d.n)))) (y := (decide (d.n ≤ (gt l i3).t))))) ?_
    refine WR.nil ?_
    change WC _ _ _ _ _ _
    refine WC.cif h (by kernel_rfl) (fun hb20 h => ?_) (fun hb20 h => ?_)
    · skip
      refine WC.rs ?_
      refine va rfl rfl rfl (q_assign (v := .bool true) rfl (by kernel_rfl)) ?_
      refine WR.nil ?_
      change WC _ _ _ _ _ _
      refine WC.ret ?_
      intro w hw
      obtain rfl := Option.some.inj h
      subst hF
      exact ⟨by kernel_rfl, hw.fr⟩
    · skip
      refine WC.skip ?_
      change WC _ _ _ _ _ _
      refine WC.region ?_
      refine va rfl rfl rfl (q_add_r (r := ((i3 + 1 : Nat) : Int)) rfl rfl rfl (ctr_len hl8 hl.le)) ?_
      refine va rfl rfl rfl (q_move (v := .int .i64 ((i3 + 1 : Nat) : Int)) rfl (by kernel_rfl)) ?_
      refine WR.nil ?_
      intro w hw
      exact ⟨hl8, (), h, (sl_ (by kernel_rfl)), (hw.only (is := [1]) rfl), trivial⟩
  · skip
    have h := hge6 (ige hb7)
    refine WC.exit ?_
    change WC _ _ _ _ _ _
    refine WC.rs ?_
    refine va rfl rfl rfl (q_assign (v := .bool false) rfl (by kernel_rfl)) ?_
    refine WR.nil ?_
    change WC _ _ _ _ _ _
    refine WC.ret ?_
    intro w hw
    obtain rfl := Option.some.inj h
    subst hF
    exact ⟨by kernel_rfl, hw.fr⟩
set_option maxRecDepth 100000 in
set_option maxHeartbeats 400000 in
theorem t_vers_behind {Γ : Gh} {w0 : World} (d : Dot) (hd : Dot.fits Γ  d) {Al : Option Addr} {cl : Nat} {l : List Ver} (hl : Sl verT Γ Al l) (hlc : l.length ≤ cl) (hs : Sat Γ w0) {r : Bool} (h : m_vers_behind d l = some r) : Calls Tryz.prog 115 #[.agg #[.int .i64 d.s, .int .i64 d.n], .slice Al l.length cl] w0 (fun e w' => e = .returned (.bool r) ∧ Fr no w0 w') := by
  refine calls_of (N := 18) (rs := [4]) (args := [.agg #[.int .i64 d.s, .int .i64 d.n], .slice Al l.length cl]) Tryz.func115 rfl Tryz.ntmps115 Tryz.results115 rfl ?_
  obtain ⟨F, hF⟩ : ∃ F : Fm, F = ⟨no, w0, Γ⟩ := ⟨_, rfl⟩
  refine WC.here (C := CC F Γ []) ?_ (hF ▸ Cur.start0 hs)
  refine WC.rs ?_
  refine e_box (v := .agg #[.int .i64 d.s, .int .i64 d.n]) rfl rfl rfl rfl (by kernel_rfl) ?_
  intro g1
  refine va rfl rfl rfl (q_assign (v := .bool false) rfl (by kernel_rfl)) ?_
  refine WR.nil ?_
  change WC _ _ _ _ _ _
  refine WC.seq ?_
  refine WC.rs ?_
  refine va rfl rfl rfl (q_move (v := .slice Al l.length cl) rfl (by kernel_rfl)) ?_
  refine va rfl rfl rfl (q_len_slice rfl Tryz.underlying67 rfl) ?_
  refine va rfl rfl rfl (q_move (v := .int .i64 0) rfl (by kernel_rfl)) ?_
  refine WR.nil ?_
  change WC _ _ _ _ _ _
  refine WC.block ?_
  refine WC.forI h (fun (i3 : Nat) (s : Unit) σ w => match s with | () => slots σ [(2, .pointer (some ⟨g1, 0, none⟩)), (7, .slice Al l.length cl), (8, .int .i64 ((l.length : Nat) : Int)), (9, .int .i64 ((i3 : Nat) : Int))] ∧ CC F Γ [[(g1, .cells #[.int .i64 d.s, .int .i64 d.n] 112 (0, 0))]] w ∧ True) ?_ ?_
  · skip
    intro w hw
    exact ⟨(sl_ (by kernel_rfl)), hw, trivial⟩
  rintro f2 i3 ⟨⟩ σ w hi4 hlt5 hge6 ⟨hsl, hw, -⟩
  refine Wpt.slots hsl ?_
  refine WC.here (C := CC F Γ [[(g1, .cells #[.int .i64 d.s, .int .i64 d.n] 112 (0, 0))]]) ?_ hw
  clear hw hsl
  refine WC.rs ?_
  refine va rfl rfl rfl (q_lss rfl rfl rfl) ?_
  refine WR.nil ?_
  change WC _ _ _ _ _ _
  refine WC.seq ?_
  refine WC.cond (b := (decide (((i3 : Nat) : Int) < ((l.length : Nat) : Int)))) (by kernel_rfl) (fun hb7 => ?_) (fun hb7 => ?_)
  · skip
    have hl8 := ilt hb7
    have h := hlt5 hl8
    refine WC.skip ?_
    change WC _ _ _ _ _ _
    refine WC.seq ?_
    refine WC.block ?_
    refine WC.rs ?_
    refine va rfl rfl rfl (q_ixn (i := i3) Tryz.underlying67 Tryz.sizeOf115 rfl rfl rfl hl8 (hl.some_ hl8)) ?_
    obtain ⟨A9, c10, hx11⟩ := hl.verT_at i3
    refine va rfl rfl rfl (q_lda (c := 0) (vs := [.int .i64 (gt l i3).dot.s, .int .i64 (gt l i3).dot.n, .slice A9 ((gt l i3).past).length c10, .bool (gt l i3).gone, .string (gt l i3).val]) (hx11 hl8).2 rfl Tryz.isAgg115 Tryz.sizeOf115 rfl rfl rfl) ?_
    refine e_alloc Tryz.zeroValue115 rfl rfl rfl rfl ?_
    intro g12
    refine e_st (i := 0) (v := .agg #[.int .i64 (gt l i3).dot.s, .int .i64 (gt l i3).dot.n, .slice A9 ((gt l i3).past).length c10, .bool (gt l i3).gone, .string (gt l i3).val]) (new := #[.int .i64 (gt l i3).dot.s, .int .i64 (gt l i3).dot.n, .slice A9 ((gt l i3).past).length c10, .bool (gt l i3).gone, .string (gt l i3).val]) rfl Tryz.sizeOf115 rfl rfl rfl rfl (by kernel_rfl) rfl rfl rfl rfl ?_
    refine WR.nil ?_
    change WC _ _ _ _ _ _
    refine WC.rs ?_
    refine va rfl rfl rfl (q_fl 2 fld_115_1 rfl rfl rfl) ?_
    refine va rfl rfl rfl (q_ldl (i := 0) (v := .slice A9 ((gt l i3).past).length c10) rfl rfl Tryz.isAgg113 rfl rfl) ?_
    refine va rfl rfl rfl (q_ldla (i := 1) (vs := [.int .i64 d.s, .int .i64 d.n]) rfl rfl Tryz.isAgg112 Tryz.sizeOf112 rfl rfl) ?_
    obtain ⟨z13, hz14, h⟩ := bnd h
    refine vc rfl rfl rfl (q_call (call_run Tryz.call139 rfl rfl (by kernel_rfl)) (fun w hw => t_span_Has (Γ := Gh.all w) ((hx11 hl8).1.2.2.1.2.mono hw.sat.le_all) (hx11 hl8).1.2.2.1.1 d hd (Sat.all w) hz14)) ?_
    refine WR.nil ?_
    change WC _ _ _ _ _ _
    refine WC.cif h (by kernel_rfl) (fun hb15 h => ?_) (fun hb15 h => ?_)
    · skip
      refine WC.rs ?_
      refine va rfl rfl rfl (q_assign (v := .bool true) rfl (by kernel_rfl)) ?_
      refine WR.nil ?_
      change WC _ _ _ _ _ _
      refine WC.ret ?_
      intro w hw
      obtain rfl := Option.some.inj h
      subst hF
      exact ⟨by kernel_rfl, hw.fr⟩
    · skip
      refine WC.skip ?_
      change WC _ _ _ _ _ _
      refine WC.region ?_
      refine va rfl rfl rfl (q_add_r (r := ((i3 + 1 : Nat) : Int)) rfl rfl rfl (ctr_len hl8 hl.le)) ?_
      refine va rfl rfl rfl (q_move (v := .int .i64 ((i3 + 1 : Nat) : Int)) rfl (by kernel_rfl)) ?_
      refine WR.nil ?_
      intro w hw
      exact ⟨hl8, (), h, (sl_ (by kernel_rfl)), (hw.only (is := [1]) rfl), trivial⟩
  · skip
    have h := hge6 (ige hb7)
    refine WC.exit ?_
    change WC _ _ _ _ _ _
    refine WC.rs ?_
    refine va rfl rfl rfl (q_assign (v := .bool false) rfl (by kernel_rfl)) ?_
    refine WR.nil ?_
    change WC _ _ _ _ _ _
    refine WC.ret ?_
    intro w hw
    obtain rfl := Option.some.inj h
    subst hF
    exact ⟨by kernel_rfl, hw.fr⟩
set_option maxRecDepth 100000 in
set_option maxHeartbeats 400000 in
theorem t_vers_Right {Γ : Gh} {w0 : World} {Al : Option Addr} {cl : Nat} {l : List Ver} (hl : Sl verT Γ Al l) (hlc : l.length ≤ cl) (hs : Sat Γ w0) {r : Bool} (h : m_vers_Right l = some r) : Calls Tryz.prog 99 #[.slice Al l.length cl] w0 (fun e w' => e = .returned (.bool r) ∧ Fr no w0 w') := by
  refine calls_of (N := 41) (rs := [2]) (args := [.slice Al l.length cl]) Tryz.func99 rfl Tryz.ntmps99 Tryz.results99 rfl ?_
  obtain ⟨F, hF⟩ : ∃ F : Fm, F = ⟨no, w0, Γ⟩ := ⟨_, rfl⟩
  refine WC.here (C := CC F Γ []) ?_ (hF ▸ Cur.start0 hs)
  refine WC.rs ?_
  refine va rfl rfl rfl (q_assign (v := .bool false) rfl (by kernel_rfl)) ?_
  refine WR.nil ?_
  change WC _ _ _ _ _ _
  refine WC.seq ?_
  refine WC.rs ?_
  refine va rfl rfl rfl (q_move (v := .slice Al l.length cl) rfl (by kernel_rfl)) ?_
  refine va rfl rfl rfl (q_len_slice rfl Tryz.underlying67 rfl) ?_
  refine va rfl rfl rfl (q_move (v := .int .i64 0) rfl (by kernel_rfl)) ?_
  refine WR.nil ?_
  change WC _ _ _ _ _ _
  refine WC.block ?_
  refine WC.forI h (fun (i2 : Nat) (s : Unit) σ w => match s with | () => slots σ [(0, .slice Al l.length cl), (5, .slice Al l.length cl), (6, .int .i64 ((l.length : Nat) : Int)), (7, .int .i64 ((i2 : Nat) : Int))] ∧ CC F Γ [] w ∧ True) ?_ ?_
  · skip
    intro w hw
    exact ⟨(sl_ (by kernel_rfl)), hw, trivial⟩
  rintro f1 i2 ⟨⟩ σ w hi3 hlt4 hge5 ⟨hsl, hw, -⟩
  refine Wpt.slots hsl ?_
  refine WC.here (C := CC F Γ []) ?_ hw
  clear hw hsl
  refine WC.rs ?_
  refine va rfl rfl rfl (q_lss rfl rfl rfl) ?_
  refine WR.nil ?_
  change WC _ _ _ _ _ _
  refine WC.seq ?_
  refine WC.cond (b := (decide (((i2 : Nat) : Int) < ((l.length : Nat) : Int)))) (by kernel_rfl) (fun hb6 => ?_) (fun hb6 => ?_)
  · skip
    have hl7 := ilt hb6
    have h := hlt4 hl7
    refine WC.skip ?_
    change WC _ _ _ _ _ _
    refine WC.seq ?_
    refine WC.block ?_
    refine WC.rs ?_
    refine va rfl rfl rfl (q_move (v := .int .i64 ((i2 : Nat) : Int)) rfl (by kernel_rfl)) ?_
    refine va rfl rfl rfl (q_ixn (i := i2) Tryz.underlying67 Tryz.sizeOf115 rfl rfl rfl hl7 (hl.some_ hl7)) ?_
    obtain ⟨A8, c9, hx10⟩ := hl.verT_at i2
    refine va rfl rfl rfl (q_lda (c := 0) (vs := [.int .i64 (gt l i2).dot.s, .int .i64 (gt l i2).dot.n, .slice A8 ((gt l i2).past).length c9, .bool (gt l i2).gone, .string (gt l i2).val]) (hx10 hl7).2 rfl Tryz.isAgg115 Tryz.sizeOf115 rfl rfl rfl) ?_
    refine e_alloc Tryz.zeroValue115 rfl rfl rfl rfl ?_
    intro g11
    refine va rfl rfl rfl (q_assign (v := .int .i64 ((i2 : Nat) : Int)) rfl (by kernel_rfl)) ?_
    refine e_st (i := 0) (v := .agg #[.int .i64 (gt l i2).dot.s, .int .i64 (gt l i2).dot.n, .slice A8 ((gt l i2).past).length c9, .bool (gt l i2).gone, .string (gt l i2).val]) (new := #[.int .i64 (gt l i2).dot.s, .int .i64 (gt l i2).dot.n, .slice A8 ((gt l i2).past).length c9, .bool (gt l i2).gone, .string (gt l i2).val]) rfl Tryz.sizeOf115 rfl rfl rfl rfl (by kernel_rfl) rfl rfl rfl rfl ?_
    refine WR.nil ?_
    change WC _ _ _ _ _ _
    refine WC.seq ?_
    refine WC.dr (by kernel_rfl) (by kernel_rfl) (fun w hw => hw.drawn _) ?_
    refine wa rfl rfl rfl (q_ldla (i := 0) (vs := [.int .i64 (gt l i2).dot.s, .int .i64 (gt l i2).dot.n, .slice A8 ((gt l i2).past).length c9, .bool (gt l i2).gone, .string (gt l i2).val]) rfl rfl Tryz.isAgg115 Tryz.sizeOf115 rfl rfl) ?_
    obtain ⟨z12, hz13, h⟩ := bnd h
    refine wc rfl rfl rfl (q_call (call_run Tryz.call113 rfl rfl (by kernel_rfl)) (fun w hw => t_vers_RightOne (Γ := Gh.all w) (gt l i2) (Ver.fits_mono (hx10 hl7).1 hw.sat.le_all) (Sat.all w) hz13)) ?_
    refine wa rfl rfl rfl (q_not rfl rfl) ?_
    refine wa rfl rfl rfl (q_move (v := .bool (!z12)) rfl (by kernel_rfl)) ?_
    refine wg0 rfl rfl rfl rfl rfl (fun hg14 => QV.qo (q_move (v := .int .i64 ((i2 : Nat) : Int)) rfl (by kernel_rfl))) ?_
    refine wg0 rfl rfl rfl rfl rfl (fun hg15 => QV.qo (q_gtr rfl (gu hg15 rfl) rfl)) ?_
    refine wg0 rfl rfl rfl rfl rfl (fun hg16 => QV.qo (q_move (v := .bool (decide (0 < ((i2 : Nat) : Int)))) rfl (gu hg16 rfl))) ?_
    refine wh1 (c0 := (!(!z12))) (g := (decide (0 < ((i2 : Nat) : Int)))) rfl rfl rfl rfl rfl (fun hg17 => QV.qo (q_move (v := .slice Al l.length cl) rfl (by kernel_rfl))) ?_
    refine wh1 (c0 := (!(!z12))) (g := (decide (0 < ((i2 : Nat) : Int)))) rfl rfl rfl rfl rfl (fun hg18 => QV.qo (q_move (v := .int .i64 ((i2 : Nat) : Int)) rfl (by kernel_rfl))) ?_
    refine wh1 (c0 := (!(!z12))) (g := (decide (0 < ((i2 : Nat) : Int)))) rfl rfl rfl rfl rfl (fun hg19 => QV.qo (q_sub rfl (gu hg19 rfl) rfl)) ?_
    obtain ⟨hk21, h⟩ := chk_some h
    refine wh1 (c0 := (!(!z12))) (g := (decide (0 < ((i2 : Nat) : Int)))) rfl rfl rfl rfl rfl (fun hg20 => QV.qo (q_ix Tryz.underlying67 Tryz.sizeOf115 rfl (gu hg20 rfl) (gu hg20 rfl) (imp_of hk21 hg20) (hl.some_ (inb_lt (imp_of hk21 hg20))))) ?_
    refine wh1 (c0 := (!(!z12))) (g := (decide (0 < ((i2 : Nat) : Int)))) rfl rfl rfl rfl rfl (fun hg22 => QV.qo (q_field_addr (((w64 (((i2 : Nat) : Int) - 1)).toNat) * 5) fld_115_0 rfl (gu hg22 rfl) (hl.some_ (inb_lt (imp_of hk21 hg22))) rfl)) ?_
    obtain ⟨A24, c25, hx26⟩ := hl.verT_at ((w64 (((i2 : Nat) : Int) - 1)).toNat)
    refine wh1 (c0 := (!(!z12))) (g := (decide (0 < ((i2 : Nat) : Int)))) rfl rfl rfl rfl rfl (fun hg23 => QV.qo (q_lda (c := 0) (vs := [.int .i64 (gt l ((w64 (((i2 : Nat) : Int) - 1)).toNat)).dot.s, .int .i64 (gt l ((w64 (((i2 : Nat) : Int) - 1)).toNat)).dot.n]) (hx26 (inb_lt (imp_of hk21 hg23))).2 rfl Tryz.isAgg112 Tryz.sizeOf112 (gu hg23 rfl) rfl rfl)) ?_
    refine wh1 (c0 := (!(!z12))) (g := (decide (0 < ((i2 : Nat) : Int)))) rfl rfl rfl rfl rfl (fun hg27 => QV.qo (q_fl 0 fld_115_0 rfl rfl rfl)) ?_
    refine wh1 (c0 := (!(!z12))) (g := (decide (0 < ((i2 : Nat) : Int)))) rfl rfl rfl rfl rfl (fun hg28 => QV.qo (q_ldla (i := 0) (vs := [.int .i64 (gt l i2).dot.s, .int .i64 (gt l i2).dot.n]) rfl rfl Tryz.isAgg112 Tryz.sizeOf112 (gu hg28 rfl) rfl)) ?_
    obtain ⟨z30, hz31, h⟩ := bnd h
    refine wh1 (c0 := (!(!z12))) (g := (decide (0 < ((i2 : Nat) : Int)))) rfl rfl rfl rfl rfl (fun hg29 => (q_call (call_run Tryz.call114 rfl rfl (args2 (gu hg29 rfl) (gu hg29 rfl))) (fun w hw => t_vers_before (Γ := Gh.all w) ((gt l ((w64 (((i2 : Nat) : Int) - 1)).toNat)).dot) ⟨(hx26 (inb_lt (imp_of hk21 hg29))).1.1, (hx26 (inb_lt (imp_of hk21 hg29))).1.2.1⟩ ((gt l i2).dot) ⟨(hx10 hl7).1.1, (hx10 hl7).1.2.1⟩ (Sat.all w) (gc_of hz31 hg29)))) ?_
    refine wh1 (c0 := (!(!z12))) (g := (decide (0 < ((i2 : Nat) : Int)))) rfl rfl rfl rfl rfl (fun hg32 => QV.qo (q_not rfl (gu hg32 rfl))) ?_
    refine wg0 rfl rfl rfl rfl rfl (fun hg33 => QV.qo (q_pick rfl (gu hg33 rfl) (pk_and (c := (!(!z12))) (g := (decide (0 < ((i2 : Nat) : Int)))) (y := (!z30)) hg33))) ?_
    refine wa rfl rfl rfl (q_pick rfl rfl (pk_or' (g := (!z12)) (y := ((decide (0 < ((i2 : Nat) : Int))) && (!z30))))) ?_
    refine wa rfl rfl rfl (q_move (v := .bool ((!z12) || ((decide (0 < ((i2 : Nat) : Int))) && (!z30)))) rfl (by kernel_rfl)) ?_
    refine wg0 rfl rfl rfl rfl rfl (fun hg34 => QV.qo (q_fl 0 fld_115_0 rfl rfl rfl)) ?_
    refine wg0 rfl rfl rfl rfl rfl (fun hg35 => QV.qo (q_ldla (i := 0) (vs := [.int .i64 (gt l i2).dot.s, .int .i64 (gt l i2).dot.n]) rfl rfl Tryz.isAgg112 Tryz.sizeOf112 (gu hg35 rfl) rfl)) ?_
    refine wg0 rfl rfl rfl rfl rfl (fun hg36 => QV.qo (q_move (v := .slice Al l.length cl) rfl (by kernel_rfl))) ?_
    obtain ⟨z38, hz39, h⟩ := bnd h
    refine wg0 rfl rfl rfl rfl rfl (fun hg37 => (q_call (call_run Tryz.call115 rfl rfl (args2 (gu hg37 rfl) (gu hg37 rfl))) (fun w hw => t_vers_behind (Γ := Gh.all w) ((gt l i2).dot) ⟨(hx10 hl7).1.1, (hx10 hl7).1.2.1⟩ (hl.mono hw.sat.le_all) hlc (Sat.all w) (gc_of hz39 hg37)))) ?_
    refine wa rfl rfl rfl (q_pick rfl rfl (pk_or' (g := ((!z12) || ((decide (0 < ((i2 : Nat) : Int))) && (!z30)))) (y := z38))) ?_
    refine WQ.nil ?_
    change WC _ _ _ _ _ _
    refine WC.cif h (by kernel_rfl) (fun hb40 h => ?_) (fun hb40 h => ?_)
    · skip
      refine WC.rs ?_
      refine va rfl rfl rfl (q_assign (v := .bool false) rfl (by kernel_rfl)) ?_
      refine WR.nil ?_
      change WC _ _ _ _ _ _
      refine WC.ret ?_
      intro w hw
      obtain rfl := Option.some.inj h
      subst hF
      exact ⟨by kernel_rfl, hw.fr⟩
    · skip
      refine WC.skip ?_
      change WC _ _ _ _ _ _
      refine WC.region ?_
      refine va rfl rfl rfl (q_add_r (r := ((i2 + 1 : Nat) : Int)) rfl rfl rfl (ctr_len hl7 hl.le)) ?_
      refine va rfl rfl rfl (q_move (v := .int .i64 ((i2 + 1 : Nat) : Int)) rfl (by kernel_rfl)) ?_
      refine WR.nil ?_
      intro w hw
      exact ⟨hl7, (), h, (sl_ (by kernel_rfl)), (hw.only (is := []) rfl), trivial⟩
  · skip
    have h := hge5 (ige hb6)
    refine WC.exit ?_
    change WC _ _ _ _ _ _
    refine WC.rs ?_
    refine va rfl rfl rfl (q_move (v := .slice Al l.length cl) rfl (by kernel_rfl)) ?_
    refine va rfl rfl rfl (q_len_slice rfl Tryz.underlying67 rfl) ?_
    refine va rfl rfl rfl (q_leq rfl rfl rfl) ?_
    refine va rfl rfl rfl (q_assign (v := .bool (decide (((l.length : Nat) : Int) ≤ 512))) rfl (by kernel_rfl)) ?_
    refine WR.nil ?_
    change WC _ _ _ _ _ _
    refine WC.ret ?_
    intro w hw
    obtain rfl := Option.some.inj h
    subst hF
    exact ⟨by kernel_rfl, hw.fr⟩
set_option maxRecDepth 100000 in
set_option maxHeartbeats 400000 in
theorem t_code_RightRec {Γ : Gh} {w0 : World} {Ar_1 : Option Addr} {cr_1 : Nat} (r_ : Rec) (hr_ : Rec.fits Γ Ar_1 cr_1 r_) (hs : Sat Γ w0) {r : Bool} (h : m_code_RightRec r_ = some r) : Calls Tryz.prog 83 #[.agg #[.string r_.key, .slice Ar_1 r_.vers.length cr_1]] w0 (fun e w' => e = .returned (.bool r) ∧ Fr no w0 w') := by
  refine calls_of (N := 18) (rs := [2]) (args := [.agg #[.string r_.key, .slice Ar_1 r_.vers.length cr_1]]) Tryz.func83 rfl Tryz.ntmps83 Tryz.results83 rfl ?_
  obtain ⟨F, hF⟩ : ∃ F : Fm, F = ⟨no, w0, Γ⟩ := ⟨_, rfl⟩
  refine WC.here (C := CC F Γ []) ?_ (hF ▸ Cur.start0 hs)
  refine WC.rs ?_
  refine e_box (v := .agg #[.string r_.key, .slice Ar_1 r_.vers.length cr_1]) rfl rfl rfl rfl (by kernel_rfl) ?_
  intro g1
  refine va rfl rfl rfl (q_assign (v := .bool false) rfl (by kernel_rfl)) ?_
  refine WR.nil ?_
  change WC _ _ _ _ _ _
  refine WC.rs ?_
  refine va rfl rfl rfl (q_fl 0 fld_70_0 rfl rfl rfl) ?_
  refine va rfl rfl rfl (q_ldl (i := 0) (v := .string r_.key) rfl rfl Tryz.isAgg9 rfl rfl) ?_
  refine va rfl rfl rfl (q_len_str rfl Tryz.underlying9 rfl) ?_
  refine va rfl rfl rfl (q_geq rfl rfl rfl) ?_
  refine va rfl rfl rfl (q_move (v := .bool (decide (1 ≤ ((r_.key.size : Nat) : Int)))) rfl (by kernel_rfl)) ?_
  refine vg1 rfl rfl rfl rfl rfl (fun hg2 => QV.qo (q_fl 0 fld_70_0 rfl rfl rfl)) ?_
  refine vg1 rfl rfl rfl rfl rfl (fun hg3 => QV.qo (q_ldl (i := 0) (v := .string r_.key) rfl rfl Tryz.isAgg9 (gu hg3 rfl) rfl)) ?_
  refine vg1 rfl rfl rfl rfl rfl (fun hg4 => QV.qo (q_len_str rfl Tryz.underlying9 (gu hg4 rfl))) ?_
  refine vg1 rfl rfl rfl rfl rfl (fun hg5 => QV.qo (q_leq rfl (gu hg5 rfl) rfl)) ?_
  refine va rfl rfl rfl (q_pick rfl rfl (pk_and' (g := (decide (1 ≤ ((r_.key.size : Nat) : Int)))) (y := (decide (((r_.key.size : Nat) : Int) ≤ 32))))) ?_
  refine va rfl rfl rfl (q_move (v := .bool ((decide (1 ≤ ((r_.key.size : Nat) : Int))) && (decide (((r_.key.size : Nat) : Int) ≤ 32)))) rfl (by kernel_rfl)) ?_
  refine vg1 rfl rfl rfl rfl rfl (fun hg6 => QV.qo (q_fl 1 fld_70_1 rfl rfl rfl)) ?_
  refine vg1 rfl rfl rfl rfl rfl (fun hg7 => QV.qo (q_ldl (i := 0) (v := .slice Ar_1 r_.vers.length cr_1) rfl rfl Tryz.isAgg67 (gu hg7 rfl) rfl)) ?_
  obtain ⟨z9, hz10, h⟩ := bnd h
  refine vg1 rfl rfl rfl rfl rfl (fun hg8 => (q_call (call_run Tryz.call99 rfl rfl (args1 (gu hg8 rfl))) (fun w hw => t_vers_Right (Γ := Gh.all w) (hr_.2.2.mono hw.sat.le_all) hr_.2.1 (Sat.all w) (gc_of hz10 hg8)))) ?_
  refine va rfl rfl rfl (q_pick rfl rfl (pk_and' (g := ((decide (1 ≤ ((r_.key.size : Nat) : Int))) && (decide (((r_.key.size : Nat) : Int) ≤ 32)))) (y := z9))) ?_
  refine va rfl rfl rfl (q_assign (v := .bool (((decide (1 ≤ ((r_.key.size : Nat) : Int))) && (decide (((r_.key.size : Nat) : Int) ≤ 32))) && z9)) rfl (by kernel_rfl)) ?_
  refine WR.nil ?_
  change WC _ _ _ _ _ _
  refine WC.ret ?_
  intro w hw
  obtain rfl := Option.some.inj h
  subst hF
  exact ⟨by kernel_rfl, hw.fr⟩
set_option maxRecDepth 100000 in
set_option maxHeartbeats 400000 in
theorem t_num_Hash {Γ : Gh} {w0 : World} {Ab : Option Addr} {cb : Nat} {b : List UInt8} (hb : Sl byteT Γ Ab b) (hbc : b.length ≤ cb) (hs : Sat Γ w0) {r : Int} (h : m_num_Hash b = some r) : Calls Tryz.prog 100 #[.slice Ab b.length cb] w0 (fun e w' => e = .returned (.int .u64 r) ∧ Fr no w0 w') := by
  refine calls_of (N := 27) (rs := [2]) (args := [.slice Ab b.length cb]) Tryz.func100 rfl Tryz.ntmps100 Tryz.results100 rfl ?_
  obtain ⟨F, hF⟩ : ∃ F : Fm, F = ⟨no, w0, Γ⟩ := ⟨_, rfl⟩
  refine WC.here (C := CC F Γ []) ?_ (hF ▸ Cur.start0 hs)
  refine WC.rs ?_
  refine va rfl rfl rfl (q_assign (v := .int .u64 0) rfl (by kernel_rfl)) ?_
  refine WR.nil ?_
  change WC _ _ _ _ _ _
  refine WC.rs ?_
  refine va rfl rfl rfl (q_assign (v := .int .u64 14695981039346656037) rfl (by kernel_rfl)) ?_
  refine WR.nil ?_
  change WC _ _ _ _ _ _
  refine WC.seq ?_
  refine WC.rs ?_
  refine va rfl rfl rfl (q_move (v := .slice Ab b.length cb) rfl (by kernel_rfl)) ?_
  refine va rfl rfl rfl (q_len_slice rfl Tryz.underlying136 rfl) ?_
  refine va rfl rfl rfl (q_move (v := .int .i64 0) rfl (by kernel_rfl)) ?_
  refine WR.nil ?_
  change WC _ _ _ _ _ _
  refine WC.block ?_
  refine WC.forI h (fun (i4 : Nat) (h_1 : Int) σ w => slots σ [(3, .int .u64 h_1), (6, .slice Ab b.length cb), (7, .int .i64 ((b.length : Nat) : Int)), (8, .int .i64 ((i4 : Nat) : Int))] ∧ CC F Γ [] w ∧ U64 h_1 ∧ True) ?_ ?_
  · skip
    intro w hw
    exact ⟨(sl_ (by kernel_rfl)), hw, (show U64 14695981039346656037 by decide), trivial⟩
  rintro f3 i4 h_1 σ w hi5 hlt6 hge7 ⟨hsl, hw, hr2, -⟩
  refine Wpt.slots hsl ?_
  refine WC.here (C := CC F Γ []) ?_ hw
  clear hw hsl
  refine WC.rs ?_
  refine va rfl rfl rfl (q_lss rfl rfl rfl) ?_
  refine WR.nil ?_
  change WC _ _ _ _ _ _
  refine WC.seq ?_
  refine WC.cond (b := (decide (((i4 : Nat) : Int) < ((b.length : Nat) : Int)))) (by kernel_rfl) (fun hb8 => ?_) (fun hb8 => ?_)
  · skip
    have hl9 := ilt hb8
    have h := hlt6 hl9
    refine WC.skip ?_
    change WC _ _ _ _ _ _
    refine WC.seq ?_
    refine WC.block ?_
    refine WC.rs ?_
    refine va rfl rfl rfl (q_ixn (i := i4) Tryz.underlying136 Tryz.sizeOf5 rfl rfl rfl hl9 (hb.some_ hl9)) ?_
    refine va rfl rfl rfl (q_ld (c := 0) (v := .int .u8 (((gt b i4).toNat : Nat) : Int)) (hb.byteT_at hl9).2 rfl Tryz.isAgg5 rfl rfl) ?_
    refine va rfl rfl rfl (q_assign (v := .int .u8 (((gt b i4).toNat : Nat) : Int)) rfl (by kernel_rfl)) ?_
    refine WR.nil ?_
    change WC _ _ _ _ _ _
    refine WC.region ?_
    refine va rfl rfl rfl (q_move (v := .int .u64 h_1) rfl (by kernel_rfl)) ?_
    refine va rfl rfl rfl (q_move (v := .int .u8 (((gt b i4).toNat : Nat) : Int)) rfl (by kernel_rfl)) ?_
    refine va rfl rfl rfl (q_conv Tryz.underlying78 Tryz.underlying5 rfl rfl) ?_
    refine va rfl rfl rfl (q_xor rfl rfl rfl) ?_
    refine va rfl rfl rfl (q_mul rfl rfl rfl) ?_
    refine va rfl rfl rfl (q_assign (v := .int .u64 (wu64 ((ixor .u64 h_1 (wu64 (((gt b i4).toNat : Nat) : Int))) * 1099511628211))) rfl (by kernel_rfl)) ?_
    refine WR.nil ?_
    change WC _ _ _ _ _ _
    refine WC.region ?_
    refine va rfl rfl rfl (q_add_r (r := ((i4 + 1 : Nat) : Int)) rfl rfl rfl (ctr_len hl9 hb.le)) ?_
    refine va rfl rfl rfl (q_move (v := .int .i64 ((i4 + 1 : Nat) : Int)) rfl (by kernel_rfl)) ?_
    refine WR.nil ?_
    intro w hw
    exact ⟨hl9, (wu64 ((ixor .u64 h_1 (wu64 (((gt b i4).toNat : Nat) : Int))) * 1099511628211)), h, (sl_ (by kernel_rfl)), hw, (wu64_r _), trivial⟩
  · skip
    have h := hge7 (ige hb8)
    refine WC.exit ?_
    change WC _ _ _ _ _ _
    refine WC.rs ?_
    refine va rfl rfl rfl (q_move (v := .int .u64 h_1) rfl (by kernel_rfl)) ?_
    refine va rfl rfl rfl (q_move (v := .int .u64 h_1) rfl (by kernel_rfl)) ?_
    refine va rfl rfl rfl (q_shr rfl rfl rfl (by decide)) ?_
    refine va rfl rfl rfl (q_xor rfl rfl rfl) ?_
    refine va rfl rfl rfl (q_mul rfl rfl rfl) ?_
    refine va rfl rfl rfl (q_assign (v := .int .u64 (wu64 ((ixor .u64 h_1 (ishr .u64 h_1 33)) * 18397679294719823053))) rfl (by kernel_rfl)) ?_
    refine WR.nil ?_
    change WC _ _ _ _ _ _
    refine WC.rs ?_
    refine va rfl rfl rfl (q_move (v := .int .u64 (wu64 ((ixor .u64 h_1 (ishr .u64 h_1 33)) * 18397679294719823053))) rfl (by kernel_rfl)) ?_
    refine va rfl rfl rfl (q_move (v := .int .u64 (wu64 ((ixor .u64 h_1 (ishr .u64 h_1 33)) * 18397679294719823053))) rfl (by kernel_rfl)) ?_
    refine va rfl rfl rfl (q_shr rfl rfl rfl (by decide)) ?_
    refine va rfl rfl rfl (q_xor rfl rfl rfl) ?_
    refine va rfl rfl rfl (q_assign (v := .int .u64 (ixor .u64 (wu64 ((ixor .u64 h_1 (ishr .u64 h_1 33)) * 18397679294719823053)) (ishr .u64 (wu64 ((ixor .u64 h_1 (ishr .u64 h_1 33)) * 18397679294719823053)) 33))) rfl (by kernel_rfl)) ?_
    refine WR.nil ?_
    change WC _ _ _ _ _ _
    refine WC.ret ?_
    intro w hw
    obtain rfl := Option.some.inj h
    subst hF
    exact ⟨by kernel_rfl, hw.fr⟩
abbrev r_tree_Place (r : List Int) (U : List Rowb) (Γ : Gh) (v : Value) : Prop := ∃ (A0 : Option Addr), ∃ (c0 : Nat), ∃ (row0 : Rowb), v = .slice A0 r.length c0 ∧ U = [row0] ∧ Own intT Γ 3 row0 A0 c0 r ∧ True
set_option maxRecDepth 100000 in
set_option maxHeartbeats 400000 in
theorem t_tree_Place {Γ : Gh} {w0 : World} (key : ByteArray) (hkey : key.size ≤ lim) (hp : Pre [] Γ w0) {r : List Int} (h : m_tree_Place key = some r) : Calls Tryz.prog 85 #[.string key] w0 (Outc Γ [] w0 (r_tree_Place r)) := by
  refine calls_of (N := 15) (rs := [2]) (args := [.string key]) Tryz.func85 rfl Tryz.ntmps85 Tryz.results85 rfl ?_
  obtain ⟨F, hF⟩ : ∃ F : Fm, F = ⟨ids [], w0, Γ⟩ := ⟨_, rfl⟩
  refine WC.here (C := CC F Γ []) ?_ (hF ▸ hp.start)
  refine WC.rs ?_
  refine va rfl rfl rfl (q_assign (v := .slice none 0 0) rfl (by kernel_rfl)) ?_
  refine WR.nil ?_
  change WC _ _ _ _ _ _
  refine WC.rs ?_
  refine va rfl rfl rfl (q_move (v := .string key) rfl (by kernel_rfl)) ?_
  refine e_convB (src := 9) (dst := 136) (s := key) Tryz.underlying9 Tryz.underlying136 Tryz.underlying5 hkey rfl rfl rfl rfl rfl ?_
  intro Γ1 A2 c3 hl4 hs5 hc6
  obtain ⟨z7, hz8, h⟩ := bnd h
  refine vc rfl rfl rfl (q_call (call_run Tryz.call100 rfl rfl (by kernel_rfl)) (fun w hw => t_num_Hash (Γ := Gh.all w) (hs5.mono hw.sat.le_all) hc6 (Sat.all w) hz8)) ?_
  refine va rfl rfl rfl (q_assign (v := .int .u64 z7) rfl (by kernel_rfl)) ?_
  refine WR.nil ?_
  change WC _ _ _ _ _ _
  refine WC.rs ?_
  refine va rfl rfl rfl (q_move (v := .int .u64 z7) rfl (by kernel_rfl)) ?_
  refine va rfl rfl rfl (q_shr rfl rfl rfl (by decide)) ?_
  refine va rfl rfl rfl (q_conv Tryz.underlying3 Tryz.underlying78 rfl rfl) ?_
  refine va rfl rfl rfl (q_move (v := .int .u64 z7) rfl (by kernel_rfl)) ?_
  refine va rfl rfl rfl (q_shr rfl rfl rfl (by decide)) ?_
  refine va rfl rfl rfl (q_and rfl rfl rfl) ?_
  refine va rfl rfl rfl (q_conv Tryz.underlying3 Tryz.underlying78 rfl rfl) ?_
  refine e_buildSlice (cs := #[.int .i64 (w64 (ishr .u64 z7 60)), .int .i64 (w64 (iand .u64 (ishr .u64 z7 56) 15))]) (e := 3) rfl rfl rfl rfl (fun w => by kernel_rfl) ?_
  intro g9
  refine va rfl rfl rfl (q_assign (v := .slice (some ⟨g9, 0, none⟩) 2 2) rfl (by kernel_rfl)) ?_
  refine WR.nil ?_
  change WC _ _ _ _ _ _
  refine WC.ret ?_
  intro w hw
  have ho10 : Own intT Γ1 3 [(g9, .cells #[.int .i64 (w64 (ishr .u64 z7 60)), .int .i64 (w64 (iand .u64 (ishr .u64 z7 56) 15))] 3 (0, 0))] (some ⟨g9, 0, none⟩) 2 [(w64 (ishr .u64 z7 60)), (w64 (iand .u64 (ishr .u64 z7 56) 15))] := Own.of_blockL (T := intT) (ys := [(w64 (ishr .u64 z7 60)), (w64 (iand .u64 (ishr .u64 z7 56) 15))]) [[.int .i64 (w64 (ishr .u64 z7 60))], [.int .i64 (w64 (iand .u64 (ishr .u64 z7 56) 15))]] rfl (show 2 ≤ lim by decide) (show Ty.rd intT Γ1 [.int .i64 (w64 (ishr .u64 z7 60))] (w64 (ishr .u64 z7 60)) ∧ Ty.rd intT Γ1 [.int .i64 (w64 (iand .u64 (ishr .u64 z7 56) 15))] (w64 (iand .u64 (ishr .u64 z7 56) 15)) ∧ True from ⟨⟨rfl, (w64_r _)⟩, ⟨rfl, (w64_r _)⟩, trivial⟩)
  obtain rfl := Option.some.inj h
  subst hF
  exact end_e (is := [0]) (by kernel_rfl) hw rfl ⟨(some ⟨g9, 0, none⟩), 2, [(g9, .cells #[.int .i64 (w64 (ishr .u64 z7 60)), .int .i64 (w64 (iand .u64 (ishr .u64 z7 56) 15))] 3 (0, 0))], rfl, rfl, ho10, trivial⟩
abbrev r_slices_Clone_api_Ver_api_Ver (r : List Ver) (U : List Rowb) (Γ : Gh) (v : Value) : Prop := ∃ (A0 : Option Addr), ∃ (c0 : Nat), ∃ (row0 : Rowb), v = .slice A0 r.length c0 ∧ U = [row0] ∧ Own verT Γ 115 row0 A0 c0 r ∧ True
set_option maxRecDepth 100000 in
set_option maxHeartbeats 400000 in
theorem t_slices_Clone_api_Ver_api_Ver {Γ : Gh} {w0 : World} {As_ : Option Addr} {cs_ : Nat} {s_ : List Ver} (hs_ : Sl verT Γ As_ s_) (hs_c : s_.length ≤ cs_) (hp : Pre [] Γ w0) {r : List Ver} (h : m_slices_Clone_api_Ver_api_Ver s_ = some r) : Calls Tryz.prog 95 #[.slice As_ s_.length cs_] w0 (Outc Γ [] w0 (r_slices_Clone_api_Ver_api_Ver r)) := by
  refine calls_of (N := 8) (rs := [2]) (args := [.slice As_ s_.length cs_]) Tryz.func95 rfl Tryz.ntmps95 Tryz.results95 rfl ?_
  obtain ⟨F, hF⟩ : ∃ F : Fm, F = ⟨ids [], w0, Γ⟩ := ⟨_, rfl⟩
  refine WC.here (C := CC F Γ []) ?_ (hF ▸ hp.start)
  refine WC.rs ?_
  refine va rfl rfl rfl (q_assign (v := .slice none 0 0) rfl (by kernel_rfl)) ?_
  refine WR.nil ?_
  change WC _ _ _ _ _ _
  refine WC.seq ?_
  refine WC.rs ?_
  refine va rfl rfl rfl (q_move (v := .slice As_ s_.length cs_) rfl (by kernel_rfl)) ?_
  refine va rfl rfl rfl (q_nil_slice Tryz.underlying67 rfl rfl rfl) ?_
  refine WR.nil ?_
  change WC _ _ _ _ _ _
  refine WC.cnil h (by kernel_rfl) (fun hb => hs_.none_nil hb) (fun hb1 h => ?_) (fun hb1 h => ?_)
  · skip
    refine WC.rs ?_
    refine va rfl rfl rfl (q_assign (v := .slice none 0 0) rfl (by kernel_rfl)) ?_
    refine WR.nil ?_
    change WC _ _ _ _ _ _
    refine WC.ret ?_
    intro w hw
    have hw := hw.pad
    obtain rfl := Option.some.inj h
    subst hF
    exact end_e (is := [0]) (by kernel_rfl) hw rfl ⟨none, 0, [], rfl, rfl, (Own.nil verT _ 115), trivial⟩
  · skip
    refine WC.skip ?_
    change WC _ _ _ _ _ _
    refine WC.rs ?_
    refine e_buildSlice (cs := #[]) (e := 115) rfl rfl rfl rfl (fun w => by kernel_rfl) ?_
    intro g2
    refine va rfl rfl rfl (q_move (v := .slice As_ s_.length cs_) rfl (by kernel_rfl)) ?_
    have ho3 : Own verT Γ 115 [(g2, .cells #[] 115 (0, 0))] (some ⟨g2, 0, none⟩) 0 ([] : List Ver) := Own.of_blockL (T := verT) (ys := ([] : List Ver)) [] rfl (show 0 ≤ lim by decide) (show True from trivial)
    obtain ⟨hk4, h⟩ := chk_some h
    refine e_append (T := verT) (xs := ([] : List Ver)) (ys := s_) elem_67 (i := 0) rfl rfl rfl rfl rfl rfl rfl ho3 (of_decide_eq_true hk4) (fun w hw => src_sl hs_ hw) ?_
    intro row5 A6 c7 ho8
    refine va rfl rfl rfl (q_assign (v := .slice A6 (([] : List Ver) ++ s_).length c7) rfl (by kernel_rfl)) ?_
    refine WR.nil ?_
    change WC _ _ _ _ _ _
    refine WC.ret ?_
    intro w hw
    obtain rfl := Option.some.inj h
    subst hF
    exact end_e (is := [0]) (by kernel_rfl) hw rfl ⟨A6, c7, row5, rfl, rfl, ho8, trivial⟩
abbrev r_slices_Clone_api_Span_api_Span (r : List Span) (U : List Rowb) (Γ : Gh) (v : Value) : Prop := ∃ (A0 : Option Addr), ∃ (c0 : Nat), ∃ (row0 : Rowb), v = .slice A0 r.length c0 ∧ U = [row0] ∧ Own spanT Γ 117 row0 A0 c0 r ∧ True
set_option maxRecDepth 100000 in
set_option maxHeartbeats 400000 in
theorem t_slices_Clone_api_Span_api_Span {Γ : Gh} {w0 : World} {As_ : Option Addr} {cs_ : Nat} {s_ : List Span} (hs_ : Sl spanT Γ As_ s_) (hs_c : s_.length ≤ cs_) (hp : Pre [] Γ w0) {r : List Span} (h : m_slices_Clone_api_Span_api_Span s_ = some r) : Calls Tryz.prog 96 #[.slice As_ s_.length cs_] w0 (Outc Γ [] w0 (r_slices_Clone_api_Span_api_Span r)) := by
  refine calls_of (N := 8) (rs := [2]) (args := [.slice As_ s_.length cs_]) Tryz.func96 rfl Tryz.ntmps96 Tryz.results96 rfl ?_
  obtain ⟨F, hF⟩ : ∃ F : Fm, F = ⟨ids [], w0, Γ⟩ := ⟨_, rfl⟩
  refine WC.here (C := CC F Γ []) ?_ (hF ▸ hp.start)
  refine WC.rs ?_
  refine va rfl rfl rfl (q_assign (v := .slice none 0 0) rfl (by kernel_rfl)) ?_
  refine WR.nil ?_
  change WC _ _ _ _ _ _
  refine WC.seq ?_
  refine WC.rs ?_
  refine va rfl rfl rfl (q_move (v := .slice As_ s_.length cs_) rfl (by kernel_rfl)) ?_
  refine va rfl rfl rfl (q_nil_slice Tryz.underlying113 rfl rfl rfl) ?_
  refine WR.nil ?_
  change WC _ _ _ _ _ _
  refine WC.cnil h (by kernel_rfl) (fun hb => hs_.none_nil hb) (fun hb1 h => ?_) (fun hb1 h => ?_)
  · skip
    refine WC.rs ?_
    refine va rfl rfl rfl (q_assign (v := .slice none 0 0) rfl (by kernel_rfl)) ?_
    refine WR.nil ?_
    change WC _ _ _ _ _ _
    refine WC.ret ?_
    intro w hw
    have hw := hw.pad
    obtain rfl := Option.some.inj h
    subst hF
    exact end_e (is := [0]) (by kernel_rfl) hw rfl ⟨none, 0, [], rfl, rfl, (Own.nil spanT _ 117), trivial⟩
  · skip
    refine WC.skip ?_
    change WC _ _ _ _ _ _
    refine WC.rs ?_
    refine e_buildSlice (cs := #[]) (e := 117) rfl rfl rfl rfl (fun w => by kernel_rfl) ?_
    intro g2
    refine va rfl rfl rfl (q_move (v := .slice As_ s_.length cs_) rfl (by kernel_rfl)) ?_
    have ho3 : Own spanT Γ 117 [(g2, .cells #[] 117 (0, 0))] (some ⟨g2, 0, none⟩) 0 ([] : List Span) := Own.of_blockL (T := spanT) (ys := ([] : List Span)) [] rfl (show 0 ≤ lim by decide) (show True from trivial)
    obtain ⟨hk4, h⟩ := chk_some h
    refine e_append (T := spanT) (xs := ([] : List Span)) (ys := s_) elem_113 (i := 0) rfl rfl rfl rfl rfl rfl rfl ho3 (of_decide_eq_true hk4) (fun w hw => src_sl hs_ hw) ?_
    intro row5 A6 c7 ho8
    refine va rfl rfl rfl (q_assign (v := .slice A6 (([] : List Span) ++ s_).length c7) rfl (by kernel_rfl)) ?_
    refine WR.nil ?_
    change WC _ _ _ _ _ _
    refine WC.ret ?_
    intro w hw
    obtain rfl := Option.some.inj h
    subst hF
    exact end_e (is := [0]) (by kernel_rfl) hw rfl ⟨A6, c7, row5, rfl, rfl, ho8, trivial⟩
abbrev r_tree_own (r : Rec) (U : List Rowb) (Γ : Gh) (v : Value) : Prop := ∃ (A0_1 : Option Addr), ∃ (c0_1 : Nat), v = .agg #[.string r.key, .slice A0_1 r.vers.length c0_1] ∧ U = [] ∧ Rec.fits Γ A0_1 c0_1 r ∧ True
set_option maxRecDepth 100000 in
set_option maxHeartbeats 400000 in
theorem t_tree_own {Γ : Gh} {w0 : World} {Ar_1 : Option Addr} {cr_1 : Nat} (r_ : Rec) (hr_ : Rec.fits Γ Ar_1 cr_1 r_) (hp : Pre [] Γ w0) {r : Rec} (h : m_tree_own r_ = some r) : Calls Tryz.prog 79 #[.agg #[.string r_.key, .slice Ar_1 r_.vers.length cr_1]] w0 (Outc Γ [] w0 (r_tree_own r)) := by
  refine calls_of_r (N := 28) (rs := [.cell 2 70]) (args := [.agg #[.string r_.key, .slice Ar_1 r_.vers.length cr_1]]) Tryz.func79 rfl Tryz.ntmps79 Tryz.results79 rfl ?_
  obtain ⟨F, hF⟩ : ∃ F : Fm, F = ⟨ids [], w0, Γ⟩ := ⟨_, rfl⟩
  refine WC.here (C := CC F Γ []) ?_ (hF ▸ hp.start)
  refine WC.rs ?_
  refine e_box (v := .agg #[.string r_.key, .slice Ar_1 r_.vers.length cr_1]) rfl rfl rfl rfl (by kernel_rfl) ?_
  intro g1
  refine e_alloc Tryz.zeroValue70 rfl rfl rfl rfl ?_
  intro g2
  refine WR.nil ?_
  change WC _ _ _ _ _ _
  refine WC.rs ?_
  refine va rfl rfl rfl (q_fl 1 fld_70_1 rfl rfl rfl) ?_
  refine va rfl rfl rfl (q_ldl (i := 1) (v := .slice Ar_1 r_.vers.length cr_1) rfl rfl Tryz.isAgg67 rfl rfl) ?_
  obtain ⟨z3, hz4, h⟩ := bnd h
  refine e_call (is := []) rfl rfl (call_run Tryz.call95 rfl rfl (by kernel_rfl)) rfl (fun w hp => t_slices_Clone_api_Ver_api_Ver hr_.2.2 hr_.2.1 hp hz4) ?_
  rintro Γ5 U7 v8 hl6 ⟨A9, c10, row11, rfl, rfl, hr12, _⟩
  change WR _ _ _ (CC F Γ5 [row11, [(g2, .cells #[.string ByteArray.empty, .slice none 0 0] 70 (0, 0))], [(g1, .cells #[.string r_.key, .slice Ar_1 r_.vers.length cr_1] 70 (0, 0))]]) _ _ (upd _ 6 (.slice A9 z3.length c10))
  refine va rfl rfl rfl (q_fl 1 fld_70_1 rfl rfl rfl) ?_
  refine e_st (i := 2) (v := .slice A9 z3.length c10) (new := #[.string r_.key, .slice A9 z3.length c10]) rfl Tryz.sizeOf67 rfl rfl rfl rfl (by kernel_rfl) rfl rfl rfl rfl ?_
  refine WR.nil ?_
  change WC _ _ _ _ _ _
  refine WC.seq ?_
  refine WC.rs ?_
  refine va rfl rfl rfl (q_fl 1 fld_70_1 rfl rfl rfl) ?_
  refine va rfl rfl rfl (q_ldl (i := 2) (v := .slice A9 z3.length c10) rfl rfl Tryz.isAgg67 rfl rfl) ?_
  refine va rfl rfl rfl (q_len_slice rfl Tryz.underlying67 rfl) ?_
  refine va rfl rfl rfl (q_move (v := .int .i64 0) rfl (by kernel_rfl)) ?_
  refine WR.nil ?_
  change WC _ _ _ _ _ _
  refine WC.block ?_
  refine WC.forU h (fun (i20 : Nat) (x15 : List Ver) σ w => ∃ (Γ13 : Gh), ∃ (row16 : Rowb), slots σ [(1, .pointer (some ⟨g1, 0, none⟩)), (2, .pointer (some ⟨g2, 0, none⟩)), (10, .int .i64 ((z3.length : Nat) : Int)), (11, .int .i64 ((i20 : Nat) : Int))] ∧ CC F Γ13 [row16, [(g2, .cells #[.string ByteArray.empty, .slice none 0 0] 70 (0, 0))], [(g1, .cells #[.string r_.key, .slice A9 z3.length c10] 70 (0, 0))]] w ∧ Gh.le Γ5 Γ13 ∧ x15.length = z3.length ∧ Own verT Γ13 115 row16 A9 c10 x15 ∧ True) ?_ ?_
  · skip
    intro w hw
    exact ⟨Γ5, row11, (sl_ (by kernel_rfl)), hw, (Gh.refl _), rfl, hr12, trivial⟩
  rintro f19 i20 x15 σ w hi21 hlt22 hge23 ⟨Γ13, row16, hsl, hw, hl14, hn18, ho17, -⟩
  refine Wpt.slots hsl ?_
  refine WC.here (C := CC F Γ13 [row16, [(g2, .cells #[.string ByteArray.empty, .slice none 0 0] 70 (0, 0))], [(g1, .cells #[.string r_.key, .slice A9 z3.length c10] 70 (0, 0))]]) ?_ hw
  clear hw hsl
  refine WC.rs ?_
  refine va rfl rfl rfl (q_lss rfl rfl rfl) ?_
  refine WR.nil ?_
  change WC _ _ _ _ _ _
  refine WC.seq ?_
  refine WC.cond (b := (decide (((i20 : Nat) : Int) < ((z3.length : Nat) : Int)))) (by kernel_rfl) (fun hb24 => ?_) (fun hb24 => ?_)
  · skip
    have hl25 := ilt hb24
    have h := hlt22 hl25
    refine WC.skip ?_
    change WC _ _ _ _ _ _
    refine WC.seq ?_
    refine WC.block ?_
    refine WC.rs ?_
    refine va rfl rfl rfl (q_move (v := .int .i64 ((i20 : Nat) : Int)) rfl (by kernel_rfl)) ?_
    refine va rfl rfl rfl (q_assign (v := .int .i64 ((i20 : Nat) : Int)) rfl (by kernel_rfl)) ?_
    refine WR.nil ?_
    change WC _ _ _ _ _ _
    intro w hw; have h026 := hw.le
    refine WC.here (C := CC F Γ13 [row16, [(g2, .cells #[.string ByteArray.empty, .slice none 0 0] 70 (0, 0))], [(g1, .cells #[.string r_.key, .slice A9 z3.length c10] 70 (0, 0))]]) ?_ hw; clear hw
    refine WC.held (CC F Γ13 [[(g2, .cells #[.string ByteArray.empty, .slice none 0 0] 70 (0, 0))], [(g1, .cells #[.string r_.key, .slice A9 z3.length c10] 70 (0, 0))]]) (by kernel_rfl) (fun w hw => hw.drawn _) ?_
    change WH _ _ _ _ (CC F Γ13 [row16, [(g2, .cells #[.string ByteArray.empty, .slice none 0 0] 70 (0, 0))], [(g1, .cells #[.string r_.key, .slice A9 z3.length c10] 70 (0, 0))]]) _ 13 #[false, false, false, false, false, false, false, false, false, false, false, false, false] _
    refine ht (i := 0) rfl (by kernel_rfl) rfl rfl rfl (fun w hw => hw.back (Gh.refl _) h026 (.cons _ (.cons_cons _ (.cons_cons _ .slnil)))) (q_fl 1 fld_70_1 rfl rfl rfl) ?_
    refine ht (i := 1) rfl (by kernel_rfl) rfl rfl rfl (fun w hw => hw.back (Gh.refl _) h026 (.cons _ (.cons_cons _ (.cons_cons _ .slnil)))) (q_ldl (i := 1) (v := .slice A9 z3.length c10) rfl rfl Tryz.isAgg67 rfl rfl) ?_
    refine ht (i := 2) rfl (by kernel_rfl) rfl rfl rfl (fun w hw => hw.back (Gh.refl _) h026 (.cons _ (.cons_cons _ (.cons_cons _ .slnil)))) (q_move (v := .int .i64 ((i20 : Nat) : Int)) rfl (by kernel_rfl)) ?_
    refine ht (i := 3) rfl (by kernel_rfl) rfl rfl rfl (fun w hw => hw.back (Gh.refl _) h026 (.cons _ (.cons_cons _ (.cons_cons _ .slnil)))) (q_fl 1 fld_70_1 rfl rfl rfl) ?_
    refine ht (i := 4) rfl (by kernel_rfl) rfl rfl rfl (fun w hw => hw.back (Gh.refl _) h026 (.cons _ (.cons_cons _ (.cons_cons _ .slnil)))) (q_ldl (i := 1) (v := .slice A9 z3.length c10) rfl rfl Tryz.isAgg67 rfl rfl) ?_
    refine ht (i := 5) rfl (by kernel_rfl) rfl rfl rfl (fun w hw => hw.back (Gh.refl _) h026 (.cons _ (.cons_cons _ (.cons_cons _ .slnil)))) (q_move (v := .int .i64 ((i20 : Nat) : Int)) rfl (by kernel_rfl)) ?_
    refine WH.lone (i := 6) (by kernel_rfl) rfl ?_
    refine va rfl rfl rfl (q_ixn (i := i20) Tryz.underlying67 Tryz.sizeOf115 rfl rfl rfl hl25 (ho17.some_ (ltq hl25 hn18.symm))) ?_
    refine WR.nil ?_
    refine WH.next (fun w hw => hw.back (Gh.refl _) h026 (.cons _ (.cons_cons _ (.cons_cons _ .slnil)))) ?_
    refine WH.lone (i := 7) (by kernel_rfl) rfl ?_
    refine va rfl rfl rfl (q_field_addr (i20 * 5 + 2) fld_115_1 rfl rfl (ho17.some_ (ltq hl25 hn18.symm)) rfl) ?_
    refine WR.nil ?_
    refine WH.next (fun w hw => hw.back (Gh.refl _) h026 (.cons _ (.cons_cons _ (.cons_cons _ .slnil)))) ?_
    refine WH.lone (i := 8) (by kernel_rfl) rfl ?_
    obtain ⟨A27, c28, hx29⟩ := ho17.verT_at i20
    refine va rfl rfl rfl (q_ldo (c := 2) (v := .slice A27 ((gt x15 i20).past).length c28) (i := 0) rfl (hx29 (ltq hl25 hn18.symm)).2 rfl Tryz.isAgg113 rfl rfl) ?_
    refine WR.nil ?_
    refine WH.next (fun w hw => hw.back (Gh.refl _) h026 (.cons _ (.cons_cons _ (.cons_cons _ .slnil)))) ?_
    refine WH.lone (i := 9) (by kernel_rfl) rfl ?_
    obtain ⟨z30, hz31, h⟩ := bnd h
    refine e_call (is := []) rfl rfl (call_run Tryz.call96 rfl rfl (by kernel_rfl)) rfl (fun w hp => t_slices_Clone_api_Span_api_Span (hx29 (ltq hl25 hn18.symm)).1.2.2.1.2 (hx29 (ltq hl25 hn18.symm)).1.2.2.1.1 hp hz31) ?_
    rintro Γ32 U34 v35 hl33 ⟨A36, c37, row38, rfl, rfl, hr39, _⟩
    change WR _ _ _ (CC F Γ32 [row38, row16, [(g2, .cells #[.string ByteArray.empty, .slice none 0 0] 70 (0, 0))], [(g1, .cells #[.string r_.key, .slice A9 z3.length c10] 70 (0, 0))]]) _ _ (upd _ 23 (.slice A36 z30.length c37))
    refine WR.nil ?_
    refine WH.next (fun w hw => hw.back hl33 h026 (.cons _ (.cons _ (.cons_cons _ (.cons_cons _ .slnil))))) ?_
    refine WH.lone (i := 10) (by kernel_rfl) rfl ?_
    refine va rfl rfl rfl (q_ixn (i := i20) Tryz.underlying67 Tryz.sizeOf115 rfl rfl rfl hl25 ((ho17.mono hl33).some_ (ltq hl25 hn18.symm))) ?_
    refine WR.nil ?_
    refine WH.next (fun w hw => hw.back hl33 h026 (.cons _ (.cons _ (.cons_cons _ (.cons_cons _ .slnil))))) ?_
    refine WH.lone (i := 11) (by kernel_rfl) rfl ?_
    refine va rfl rfl rfl (q_field_addr (i20 * 5 + 2) fld_115_1 rfl rfl ((ho17.mono hl33).some_ (ltq hl25 hn18.symm)) rfl) ?_
    refine WR.nil ?_
    refine WH.next (fun w hw => hw.back hl33 h026 (.cons _ (.cons _ (.cons_cons _ (.cons_cons _ .slnil))))) ?_
    refine WH.lone (i := 12) (by kernel_rfl) rfl ?_
    have hc44 := hr39.capz
    intro w hw; obtain ⟨Γ40, hw, hl41, hr42⟩ := hw.seal (i := 0) rfl; have hs43 := hr39.sl hl41 hr42
    refine WR.here (C := CC F Γ40 [[], row16, [(g2, .cells #[.string ByteArray.empty, .slice none 0 0] 70 (0, 0))], [(g1, .cells #[.string r_.key, .slice A9 z3.length c10] 70 (0, 0))]]) ?_ hw
    clear hw
    refine e_store_part (T := verT) (q := i20) (f := 2) (v := .slice A36 z30.length c37) (vs := [.slice A36 z30.length c37]) (cs := [.int .i64 (gt x15 i20).dot.s, .int .i64 (gt x15 i20).dot.n, .slice A27 ((gt x15 i20).past).length c28, .bool (gt x15 i20).gone, .string (gt x15 i20).val]) (new := [.int .i64 (gt x15 i20).dot.s, .int .i64 (gt x15 i20).dot.n, .slice A36 z30.length c37, .bool (gt x15 i20).gone, .string (gt x15 i20).val]) (y := (⟨(⟨(gt x15 i20).dot.s, (gt x15 i20).dot.n⟩ : Dot), z30, (gt x15 i20).gone, (gt x15 i20).val⟩ : Ver)) rfl rfl rfl rfl (by kernel_rfl) Tryz.sizeOf113 rfl (hx29 (ltq hl25 hn18.symm)).2 rfl (Nat.le_of_ble_eq_true rfl) rfl (by exact ⟨A36, c37, rfl, ⟨(hx29 (ltq hl25 hn18.symm)).1.1, (hx29 (ltq hl25 hn18.symm)).1.2.1, ⟨hc44, hs43⟩, (hx29 (ltq hl25 hn18.symm)).1.2.2.2⟩⟩) (i := 1) rfl (ho17.mono (hl33.trans hl41)) (ltq hl25 hn18.symm) ?_
    intro row45 ho46
    refine WR.nil ?_
    refine WH.next (fun w hw => hw.back (hl33.trans hl41) h026 (.cons _ (.cons _ (.cons_cons _ (.cons_cons _ .slnil))))) ?_
    refine WH.done (by kernel_rfl) ?_
    change WC _ _ _ _ _ _
    refine WC.region ?_
    refine va rfl rfl rfl (q_add_r (r := ((i20 + 1 : Nat) : Int)) rfl rfl rfl (ctr_len hl25 (hn18 ▸ ho17.le))) ?_
    refine va rfl rfl rfl (q_move (v := .int .i64 ((i20 + 1 : Nat) : Int)) rfl (by kernel_rfl)) ?_
    refine WR.nil ?_
    intro w hw
    exact ⟨hl25, (List.set x15 i20 (⟨(⟨(gt x15 i20).dot.s, (gt x15 i20).dot.n⟩ : Dot), z30, (gt x15 i20).gone, (gt x15 i20).val⟩ : Ver)), h, Γ40, row45, (sl_ (by kernel_rfl)), (hw.only (is := [1, 1, 1]) rfl), ((hl14.trans hl33).trans hl41), (List.length_set.trans hn18), ho46, trivial⟩
  · skip
    have h := hge23 (ige hb24)
    refine WC.exit ?_
    change WC _ _ _ _ _ _
    refine WC.rs ?_
    refine va rfl rfl rfl (q_ldla (i := 2) (vs := [.string r_.key, .slice A9 z3.length c10]) rfl rfl Tryz.isAgg70 Tryz.sizeOf70 rfl rfl) ?_
    refine e_st (i := 1) (v := .agg #[.string r_.key, .slice A9 z3.length c10]) (new := #[.string r_.key, .slice A9 z3.length c10]) rfl Tryz.sizeOf70 rfl rfl rfl rfl (by kernel_rfl) rfl rfl rfl rfl ?_
    refine WR.nil ?_
    change WC _ _ _ _ _ _
    refine WC.ret ?_
    rw [show Value.slice A9 (z3.length) c10 = Value.slice A9 (x15.length) c10 from by rw [hn18]]
    intro w hw
    have hc51 := ho17.capz
    obtain ⟨Γ47, hw, hl48, hr49⟩ := hw.seal (i := 0) rfl; have hs50 := ho17.sl hl48 hr49
    obtain rfl := Option.some.inj h
    subst hF
    exact ⟨[.agg #[.string r_.key, .slice A9 x15.length c10]], (rr_agg (i := 1) (us := [.string r_.key, .slice A9 x15.length c10]) hw rfl Tryz.isAgg70 Tryz.sizeOf70 (by kernel_rfl) rfl rr_nil), end_e (is := []) (by kernel_rfl) hw rfl ⟨A9, c10, rfl, rfl, ⟨hr_.1, ⟨hc51, hs50⟩⟩, trivial⟩⟩
abbrev r_tree_Tree_Set (gt_ : Nat) (r : OTree × Int) (U : List Rowb) (Γ : Gh) (v : Value) : Prop := ∃ (rowt_' : Rowb), v = .int .i64 r.2 ∧ U = [rowt_'] ∧ OTree.ob (tg0 123) Γ gt_ rowt_' r.1 ∧ I64 r.2 ∧ True
set_option maxRecDepth 100000 in
set_option maxHeartbeats 400000 in
theorem t_tree_Tree_Set {Γ : Gh} {w0 : World} {gt_ : Nat} {rowt_ : Rowb} {t_ : OTree} (ht_ : OTree.ob (tg0 123) Γ gt_ rowt_ t_) {Ar_1 : Option Addr} {cr_1 : Nat} (r_ : Rec) (hr_ : Rec.fits Γ Ar_1 cr_1 r_) (hp : Pre [rowt_] Γ w0) {r : OTree × Int} (h : m_tree_Tree_Set t_ r_ = some r) : Calls Tryz.prog 66 #[.pointer (some ⟨gt_, 0, none⟩), .agg #[.string r_.key, .slice Ar_1 r_.vers.length cr_1]] w0 (Outc Γ [rowt_] w0 (r_tree_Tree_Set gt_ r)) := by
  refine calls_of (N := 71) (rs := [4]) (args := [.pointer (some ⟨gt_, 0, none⟩), .agg #[.string r_.key, .slice Ar_1 r_.vers.length cr_1]]) Tryz.func66 rfl Tryz.ntmps66 Tryz.results66 rfl ?_
  obtain ⟨F, hF⟩ : ∃ F : Fm, F = ⟨ids [rowt_], w0, Γ⟩ := ⟨_, rfl⟩
  refine WC.here (C := CC F Γ [rowt_]) ?_ (hF ▸ hp.start)
  refine WC.rs ?_
  refine e_box (v := .agg #[.string r_.key, .slice Ar_1 r_.vers.length cr_1]) rfl rfl rfl rfl (by kernel_rfl) ?_
  intro g1
  refine va rfl rfl rfl (q_assign (v := .int .i64 0) rfl (by kernel_rfl)) ?_
  refine WR.nil ?_
  change WC _ _ _ _ _ _
  refine WC.seq ?_
  refine WC.rs ?_
  refine va rfl rfl rfl (q_ldla (i := 0) (vs := [.string r_.key, .slice Ar_1 r_.vers.length cr_1]) rfl rfl Tryz.isAgg70 Tryz.sizeOf70 rfl rfl) ?_
  obtain ⟨z2, hz3, h⟩ := bnd h
  refine vc rfl rfl rfl (q_call (call_run Tryz.call83 rfl rfl (by kernel_rfl)) (fun w hw => t_code_RightRec (Γ := Gh.all w) r_ (Rec.fits_mono hr_ hw.sat.le_all) (Sat.all w) hz3)) ?_
  refine va rfl rfl rfl (q_not rfl rfl) ?_
  refine WR.nil ?_
  change WC _ _ _ _ _ _
  refine WC.cif h (by kernel_rfl) (fun hb4 h => ?_) (fun hb4 h => ?_)
  · skip
    refine WC.rs ?_
    refine va rfl rfl rfl (q_assign (v := .int .i64 1) rfl (by kernel_rfl)) ?_
    refine WR.nil ?_
    change WC _ _ _ _ _ _
    refine WC.ret ?_
    intro w hw
    obtain rfl := Option.some.inj h
    subst hF
    exact end_e (is := [1]) (by kernel_rfl) hw rfl ⟨rowt_, rfl, rfl, ht_, (show I64 1 by decide), trivial⟩
  · skip
    refine WC.skip ?_
    change WC _ _ _ _ _ _
    refine WC.rs ?_
    refine va rfl rfl rfl (q_fl 0 fld_70_0 rfl rfl rfl) ?_
    refine va rfl rfl rfl (q_ldl (i := 0) (v := .string r_.key) rfl rfl Tryz.isAgg9 rfl rfl) ?_
    obtain ⟨z5, hz6, h⟩ := bnd h
    refine e_call (is := []) rfl rfl (call_run Tryz.call85 rfl rfl (by kernel_rfl)) rfl (fun w hp => t_tree_Place r_.key hr_.1 hp hz6) ?_
    rintro Γ7 U9 v10 hl8 ⟨A11, c12, row13, rfl, rfl, hr14, _⟩
    change WR _ _ _ (CC F Γ7 [row13, [(g1, .cells #[.string r_.key, .slice Ar_1 r_.vers.length cr_1] 70 (0, 0))], rowt_]) _ _ (upd _ 12 (.slice A11 z5.length c12))
    refine va rfl rfl rfl (q_assign (v := .slice A11 z5.length c12) rfl (by kernel_rfl)) ?_
    refine WR.nil ?_
    change WC _ _ _ _ _ _
    refine WC.seq ?_
    refine WC.dr (by kernel_rfl) (by kernel_rfl) (fun w hw => hw.drawn _) ?_
    refine wa rfl rfl rfl (q_move (v := .pointer (some ⟨gt_, 0, none⟩)) rfl (by kernel_rfl)) ?_
    refine wa rfl rfl rfl (q_move (v := .slice A11 z5.length c12) rfl (by kernel_rfl)) ?_
    obtain ⟨hk15, h⟩ := chk_some h
    refine wa rfl rfl rfl (q_ixn (i := 0) Tryz.underlying24 Tryz.sizeOf3 rfl rfl rfl (of_decide_eq_true hk15) (hr14.some_ (of_decide_eq_true hk15))) ?_
    refine wa rfl rfl rfl (q_ldo (c := 0) (v := .int .i64 (gt z5 0)) (i := 0) rfl (hr14.intT_at (of_decide_eq_true hk15)).2 rfl Tryz.isAgg3 rfl rfl) ?_
    refine wa rfl rfl rfl (q_move (v := .slice A11 z5.length c12) rfl (by kernel_rfl)) ?_
    obtain ⟨hk16, h⟩ := chk_some h
    refine wa rfl rfl rfl (q_ixn (i := 1) Tryz.underlying24 Tryz.sizeOf3 rfl rfl rfl (of_decide_eq_true hk16) (hr14.some_ (of_decide_eq_true hk16))) ?_
    refine wa rfl rfl rfl (q_ldo (c := 0) (v := .int .i64 (gt z5 1)) (i := 0) rfl (hr14.intT_at (of_decide_eq_true hk16)).2 rfl Tryz.isAgg3 rfl rfl) ?_
    refine wa rfl rfl rfl (q_nil (A := some ⟨gt_, 0, none⟩) rfl rfl rfl) ?_
    refine wa rfl rfl rfl (q_fl 0 fld_123_0 rfl rfl rfl) ?_
    obtain ⟨hk17, h⟩ := chk_some h
    refine wa rfl rfl rfl (q_ixd (i := (gt z5 0).toNat) Tryz.underlying121 Tryz.sizeOf120 rfl rfl (inle_eq rfl (inb_le hk17)) (inb_lt hk17)) ?_
    obtain ⟨hk18, h⟩ := chk_some h
    refine wa rfl rfl rfl (q_ixd (i := (gt z5 1).toNat) Tryz.underlying120 Tryz.sizeOf119 rfl rfl (inle_eq rfl (inb_le hk18)) (inb_lt hk18)) ?_
    refine wa rfl rfl rfl (q_assign (v := .pointer (some ⟨gt_, 0 + ((gt z5 0).toNat) * 16 + ((gt z5 1).toNat) * 1, none⟩)) rfl (by kernel_rfl)) ?_
    refine WQ.nil ?_
    change WC _ _ _ _ _ _
    refine WC.cut (fun σ w => ∃ (o19 : OTree), ∃ (row20 : Rowb), m_tree_Tree_Set_j1 r_ z5 o19 = some r ∧ slots σ [(0, .pointer (some ⟨gt_, 0, none⟩)), (3, .pointer (some ⟨g1, 0, none⟩)), (5, .slice A11 z5.length c12), (6, .pointer (some ⟨gt_, 0 + ((gt z5 0).toNat) * 16 + ((gt z5 1).toNat) * 1, none⟩))] ∧ CC F Γ7 [row13, [(g1, .cells #[.string r_.key, .slice Ar_1 r_.vers.length cr_1] 70 (0, 0))], row20] w ∧ OTree.ob (tg0 123) Γ7 gt_ row20 o19 ∧ True) ?_ ?_
    · skip
      refine WC.rs ?_
      refine va rfl rfl rfl (q_move (v := .pointer (some ⟨gt_, 0 + ((gt z5 0).toNat) * 16 + ((gt z5 1).toNat) * 1, none⟩)) rfl (by kernel_rfl)) ?_
      refine va rfl rfl rfl (q_nil (A := some ⟨gt_, 0 + ((gt z5 0).toNat) * 16 + ((gt z5 1).toNat) * 1, none⟩) rfl rfl rfl) ?_
      have hq := (ht_.mono hl8)
      obtain ⟨cs_22, rL_22, sm_22, rS_22, hrow_22, hM_22, hl_22, hS_22, -⟩ := hq
      obtain ⟨rA_23, r_23, rB_23, hrl_23, hO_23, hcl_23⟩ := hM_22.at_ (i := 0 + ((gt z5 0).toNat) * 16 + ((gt z5 1).toNat) * 1) (by rw [hl_22]; exact (leaf_lt (inb_lt hk17) (inb_lt hk18)))
      have hrw_23 : rowt_ = ([[(gt_, .cells (cs_22 ++ [Value.map (some sm_22)]).toArray (tg0 123).1 (0, 0))], rA_23, r_23, rB_23, rS_22] : List Rowb).flatten := by rw [hrow_22, hrl_23]; simp only [List.flatten_cons, List.flatten_nil, List.append_nil, List.append_assoc]
      intro w hw; have hw := hw.unfold (i := 2) rfl hrw_23
      refine WR.here (C := CC F Γ7 [[(gt_, .cells (cs_22 ++ [Value.map (some sm_22)]).toArray (tg0 123).1 (0, 0))], rA_23, r_23, rB_23, rS_22, row13, [(g1, .cells #[.string r_.key, .slice Ar_1 r_.vers.length cr_1] 70 (0, 0))]]) ?_ hw
      clear hw
      refine va rfl rfl rfl (q_ldA (i := 0) (cs := cs_22) rfl (by rw [(hM_22.len.trans hl_22)]; exact (leaf_lt (inb_lt hk17) (inb_lt hk18))) rfl Tryz.isAgg119 rfl) ?_
      refine va rfl rfl rfl (q_omap_nil hO_23 Tryz.underlying119 rfl rfl rfl) ?_
      refine WR.nil ?_
      change WC _ _ _ _ _ _
      refine WC.cif h (by kernel_rfl) (fun hb24 h => ?_) (fun hb24 h => ?_)
      · skip
        refine WC.region ?_
        refine va rfl rfl rfl (q_move (v := .pointer (some ⟨gt_, 0 + ((gt z5 0).toNat) * 16 + ((gt z5 1).toNat) * 1, none⟩)) rfl (by kernel_rfl)) ?_
        refine e_makeMap (strK Tryz.underlying9) recT.ag rfl rfl rfl rfl ?_
        intro g25 row26 hm27
        refine va rfl rfl rfl (q_nil (A := some ⟨gt_, 0 + ((gt z5 0).toNat) * 16 + ((gt z5 1).toNat) * 1, none⟩) rfl rfl rfl) ?_
        refine e_stA (i := 1) (cs := cs_22) (j := 0 + ((gt z5 0).toNat) * 16 + ((gt z5 1).toNat) * 1) (v := .map (some g25)) rfl (by rw [(hM_22.len.trans hl_22)]; exact (leaf_lt (inb_lt hk17) (inb_lt hk18))) Tryz.sizeOf119 rfl rfl rfl rfl (by kernel_rfl) rfl rfl ?_
        refine WR.nil ?_
        intro w hw
        obtain ⟨row_28, hrow_28, hob_28⟩ : ∃ rw : Rowb, rw = ([[(gt_, .cells ((List.set cs_22 (0 + ((gt z5 0).toNat) * 16 + ((gt z5 1).toNat) * 1) (.map (some g25))) ++ [Value.map (some sm_22)]).toArray (tg0 123).1 (0, 0))], rA_23, row26, rB_23, rS_22] : List Rowb).flatten ∧ OTree.ob (tg0 123) Γ7 gt_ rw (⟨(List.set t_.leaves (0 + ((gt z5 0).toNat) * 16 + ((gt z5 1).toNat) * 1) (some ([] : List (ByteArray × Rec)))), t_.sums⟩ : OTree) := ⟨_, rfl, (List.set cs_22 (0 + ((gt z5 0).toNat) * 16 + ((gt z5 1).toNat) * 1) (.map (some g25))), (rA_23 ++ (row26 ++ rB_23)), sm_22, rS_22, (by simp only [List.flatten_cons, List.flatten_nil, List.append_nil, List.append_assoc]), (hcl_23 _ (.map (some g25)) row26 (some ([] : List (ByteArray × Rec))) (Gh.refl _) ⟨g25, rfl, hm27⟩), (List.length_set.trans hl_22), hS_22, trivial⟩
        have hw := hw.fold (is := [1, 1, 0, 1, 1]) rfl hrow_28
        exact ⟨(⟨(List.set t_.leaves (0 + ((gt z5 0).toNat) * 16 + ((gt z5 1).toNat) * 1) (some ([] : List (ByteArray × Rec)))), t_.sums⟩ : OTree), row_28, h, (sl_ (by kernel_rfl)), (hw.only (is := [2, 2, 0]) rfl), hob_28, trivial⟩
      · skip
        refine WC.skip ?_
        intro w hw
        have hw := hw.fold (is := [0, 0, 0, 0, 0]) rfl hrw_23
        exact ⟨t_, rowt_, h, (sl_ (by kernel_rfl)), (hw.only (is := [1, 1, 0]) rfl), (ht_.mono hl8), trivial⟩
    · skip
      rintro σ w ⟨o19, row20, h, hsl, hw, ho21, -⟩
      refine Wpt.slots hsl ?_
      refine WC.here (C := CC F Γ7 [row13, [(g1, .cells #[.string r_.key, .slice Ar_1 r_.vers.length cr_1] 70 (0, 0))], row20]) ?_ hw
      clear hw hsl
      refine WC.seq ?_
      have hq := ho21
      obtain ⟨cs_30, rL_30, sm_30, rS_30, hrow_30, hM_30, hl_30, hS_30, -⟩ := hq
      obtain ⟨rA_31, r_31, rB_31, hrl_31, hO_31, hcl_31⟩ := hM_30.at_ (i := 0 + ((gt z5 0).toNat) * 16 + ((gt z5 1).toNat) * 1) (by rw [hl_30]; exact (leaf_lt (inb_lt hk17) (inb_lt hk18)))
      have hrw_31 : row20 = ([[(gt_, .cells (cs_30 ++ [Value.map (some sm_30)]).toArray (tg0 123).1 (0, 0))], rA_31, r_31, rB_31, rS_30] : List Rowb).flatten := by rw [hrow_30, hrl_31]; simp only [List.flatten_cons, List.flatten_nil, List.append_nil, List.append_assoc]
      intro w hw; have hw := hw.unfold (i := 2) rfl hrw_31
      refine WC.here (C := CC F Γ7 [[(gt_, .cells (cs_30 ++ [Value.map (some sm_30)]).toArray (tg0 123).1 (0, 0))], rA_31, r_31, rB_31, rS_30, row13, [(g1, .cells #[.string r_.key, .slice Ar_1 r_.vers.length cr_1] 70 (0, 0))]]) ?_ hw
      clear hw
      obtain ⟨es32, hes33, h⟩ := bnd h
      obtain ⟨m34, hc35, hm36⟩ : ∃ m, cgt cs_30 (0 + ((gt z5 0).toNat) * 16 + ((gt z5 1).toNat) * 1) = Value.map (some m) ∧ MapO (strK Tryz.underlying9) recT.ag Γ7 r_31 m es32 := (by have h9 := hO_31; rw [hes33] at h9; exact h9)
      intro w hw; have h037 := hw.le
      refine WC.here (C := CC F Γ7 [[(gt_, .cells (cs_30 ++ [Value.map (some sm_30)]).toArray (tg0 123).1 (0, 0))], rA_31, r_31, rB_31, rS_30, row13, [(g1, .cells #[.string r_.key, .slice Ar_1 r_.vers.length cr_1] 70 (0, 0))]]) ?_ hw; clear hw
      refine WC.held (CC F Γ7 [[(gt_, .cells (cs_30 ++ [Value.map (some sm_30)]).toArray (tg0 123).1 (0, 0))], rA_31, rB_31, row13, [(g1, .cells #[.string r_.key, .slice Ar_1 r_.vers.length cr_1] 70 (0, 0))]]) (by kernel_rfl) (fun w hw => hw.drawn _) ?_
      change WH _ _ _ _ (CC F Γ7 [[(gt_, .cells (cs_30 ++ [Value.map (some sm_30)]).toArray (tg0 123).1 (0, 0))], rA_31, r_31, rB_31, rS_30, row13, [(g1, .cells #[.string r_.key, .slice Ar_1 r_.vers.length cr_1] 70 (0, 0))]]) _ 6 #[false, false, false, false, false, false] _
      refine ht (i := 0) rfl (by kernel_rfl) rfl rfl rfl (fun w hw => hw.back (Gh.refl _) h037 (.cons_cons _ (.cons_cons _ (.cons _ (.cons_cons _ (.cons _ (.cons_cons _ (.cons_cons _ .slnil)))))))) (q_move (v := .pointer (some ⟨gt_, 0 + ((gt z5 0).toNat) * 16 + ((gt z5 1).toNat) * 1, none⟩)) rfl (by kernel_rfl)) ?_
      refine ht (i := 1) rfl (by kernel_rfl) rfl rfl rfl (fun w hw => hw.back (Gh.refl _) h037 (.cons_cons _ (.cons_cons _ (.cons _ (.cons_cons _ (.cons _ (.cons_cons _ (.cons_cons _ .slnil)))))))) (q_nil (A := some ⟨gt_, 0 + ((gt z5 0).toNat) * 16 + ((gt z5 1).toNat) * 1, none⟩) rfl rfl rfl) ?_
      refine ht (i := 2) rfl (by kernel_rfl) rfl rfl rfl (fun w hw => hw.back (Gh.refl _) h037 (.cons_cons _ (.cons_cons _ (.cons _ (.cons_cons _ (.cons _ (.cons_cons _ (.cons_cons _ .slnil)))))))) (q_ldA (i := 0) (cs := cs_30) rfl (by rw [(hM_30.len.trans hl_30)]; exact (leaf_lt (inb_lt hk17) (inb_lt hk18))) rfl Tryz.isAgg119 rfl) ?_
      refine ht (i := 3) rfl (by kernel_rfl) rfl rfl rfl (fun w hw => hw.back (Gh.refl _) h037 (.cons_cons _ (.cons_cons _ (.cons _ (.cons_cons _ (.cons _ (.cons_cons _ (.cons_cons _ .slnil)))))))) (q_fl 0 fld_70_0 rfl rfl rfl) ?_
      refine ht (i := 4) rfl (by kernel_rfl) rfl rfl rfl (fun w hw => hw.back (Gh.refl _) h037 (.cons_cons _ (.cons_cons _ (.cons _ (.cons_cons _ (.cons _ (.cons_cons _ (.cons_cons _ .slnil)))))))) (q_ldl (i := 4) (v := .string r_.key) rfl rfl Tryz.isAgg9 rfl rfl) ?_
      refine WH.lone (i := 5) (by kernel_rfl) rfl ?_
      refine e_delete (i := 2) (x := r_.key) rfl hm36 rfl rfl rfl Tryz.underlying119 (Eq.trans (b := cgt cs_30 (0 + ((gt z5 0).toNat) * 16 + ((gt z5 1).toNat) * 1)) rfl hc35) rfl ?_
      intro row38 hm39
      refine WR.nil ?_
      refine WH.next (fun w hw => hw.back (Gh.refl _) h037 (.cons_cons _ (.cons_cons _ (.cons _ (.cons_cons _ (.cons _ (.cons_cons _ (.cons_cons _ .slnil)))))))) ?_
      refine WH.done (by kernel_rfl) ?_
      change WC _ _ _ _ _ _
      obtain ⟨row_40, hrow_40, hob_40⟩ : ∃ rw : Rowb, rw = ([[(gt_, .cells (cs_30 ++ [Value.map (some sm_30)]).toArray (tg0 123).1 (0, 0))], rA_31, row38, rB_31, rS_30] : List Rowb).flatten ∧ OTree.ob (tg0 123) Γ7 gt_ rw (⟨(List.set o19.leaves (0 + ((gt z5 0).toNat) * 16 + ((gt z5 1).toNat) * 1) (some (mdel r_.key es32))), o19.sums⟩ : OTree) := ⟨_, rfl, cs_30, (rA_31 ++ (row38 ++ rB_31)), sm_30, rS_30, (by simp only [List.flatten_cons, List.flatten_nil, List.append_nil, List.append_assoc]), (by have h9 := hcl_31 _ (.map (some m34)) row38 (some (mdel r_.key es32)) (Gh.refl _) ⟨m34, rfl, hm39⟩; rw [set_cgt hc35] at h9; exact h9), (List.length_set.trans hl_30), hS_30, trivial⟩
      intro w hw; have hw := hw.fold (is := [0, 0, 0, 0, 0]) rfl hrow_40
      refine WC.here (C := CC F Γ7 [row_40, row13, [(g1, .cells #[.string r_.key, .slice Ar_1 r_.vers.length cr_1] 70 (0, 0))]]) ?_ hw
      clear hw
      refine WC.cut (fun σ w => ∃ (o43 : OTree), ∃ (Γ41 : Gh), ∃ (row44 : Rowb), m_tree_Tree_Set_j2 z5 o43 = some r ∧ slots σ [(0, .pointer (some ⟨gt_, 0, none⟩)), (5, .slice A11 z5.length c12)] ∧ CC F Γ41 [row44, row13] w ∧ Gh.le Γ7 Γ41 ∧ OTree.ob (tg0 123) Γ41 gt_ row44 o43 ∧ True) ?_ ?_
      · skip
        refine WC.rs ?_
        refine va rfl rfl rfl (q_fl 1 fld_70_1 rfl rfl rfl) ?_
        refine va rfl rfl rfl (q_ldl (i := 2) (v := .slice Ar_1 r_.vers.length cr_1) rfl rfl Tryz.isAgg67 rfl rfl) ?_
        refine va rfl rfl rfl (q_len_slice rfl Tryz.underlying67 rfl) ?_
        refine va rfl rfl rfl (q_gtr rfl rfl rfl) ?_
        refine WR.nil ?_
        change WC _ _ _ _ _ _
        refine WC.cif h (by kernel_rfl) (fun hb46 h => ?_) (fun hb46 h => ?_)
        · skip
          have hq := hob_40
          obtain ⟨cs_47, rL_47, sm_47, rS_47, hrow_47, hM_47, hl_47, hS_47, -⟩ := hq
          obtain ⟨rA_48, r_48, rB_48, hrl_48, hO_48, hcl_48⟩ := hM_47.at_ (i := 0 + ((gt z5 0).toNat) * 16 + ((gt z5 1).toNat) * 1) (by rw [hl_47]; exact (leaf_lt (inb_lt hk17) (inb_lt hk18)))
          have hrw_48 : row_40 = ([[(gt_, .cells (cs_47 ++ [Value.map (some sm_47)]).toArray (tg0 123).1 (0, 0))], rA_48, r_48, rB_48, rS_47] : List Rowb).flatten := by rw [hrow_47, hrl_48]; simp only [List.flatten_cons, List.flatten_nil, List.append_nil, List.append_assoc]
          intro w hw; have hw := hw.unfold (i := 0) rfl hrw_48
          refine WC.here (C := CC F Γ7 [[(gt_, .cells (cs_47 ++ [Value.map (some sm_47)]).toArray (tg0 123).1 (0, 0))], rA_48, r_48, rB_48, rS_47, row13, [(g1, .cells #[.string r_.key, .slice Ar_1 r_.vers.length cr_1] 70 (0, 0))]]) ?_ hw
          clear hw
          obtain ⟨es49, hes50, h⟩ := bnd h
          obtain ⟨m51, hc52, hm53⟩ : ∃ m, cgt cs_47 (0 + ((gt z5 0).toNat) * 16 + ((gt z5 1).toNat) * 1) = Value.map (some m) ∧ MapO (strK Tryz.underlying9) recT.ag Γ7 r_48 m es49 := (by have h9 := hO_48; rw [hes50] at h9; exact h9)
          intro w hw; have h054 := hw.le
          refine WC.here (C := CC F Γ7 [[(gt_, .cells (cs_47 ++ [Value.map (some sm_47)]).toArray (tg0 123).1 (0, 0))], rA_48, r_48, rB_48, rS_47, row13, [(g1, .cells #[.string r_.key, .slice Ar_1 r_.vers.length cr_1] 70 (0, 0))]]) ?_ hw; clear hw
          refine WC.held (CC F Γ7 [[(gt_, .cells (cs_47 ++ [Value.map (some sm_47)]).toArray (tg0 123).1 (0, 0))], rA_48, rB_48, row13, [(g1, .cells #[.string r_.key, .slice Ar_1 r_.vers.length cr_1] 70 (0, 0))]]) (by kernel_rfl) (fun w hw => hw.drawn _) ?_
          change WH _ _ _ _ (CC F Γ7 [[(gt_, .cells (cs_47 ++ [Value.map (some sm_47)]).toArray (tg0 123).1 (0, 0))], rA_48, r_48, rB_48, rS_47, row13, [(g1, .cells #[.string r_.key, .slice Ar_1 r_.vers.length cr_1] 70 (0, 0))]]) _ 8 #[false, false, false, false, false, false, false, false] _
          refine ht (i := 0) rfl (by kernel_rfl) rfl rfl rfl (fun w hw => hw.back (Gh.refl _) h054 (.cons_cons _ (.cons_cons _ (.cons _ (.cons_cons _ (.cons _ (.cons_cons _ (.cons_cons _ .slnil)))))))) (q_move (v := .pointer (some ⟨gt_, 0 + ((gt z5 0).toNat) * 16 + ((gt z5 1).toNat) * 1, none⟩)) rfl (by kernel_rfl)) ?_
          refine ht (i := 1) rfl (by kernel_rfl) rfl rfl rfl (fun w hw => hw.back (Gh.refl _) h054 (.cons_cons _ (.cons_cons _ (.cons _ (.cons_cons _ (.cons _ (.cons_cons _ (.cons_cons _ .slnil)))))))) (q_nil (A := some ⟨gt_, 0 + ((gt z5 0).toNat) * 16 + ((gt z5 1).toNat) * 1, none⟩) rfl rfl rfl) ?_
          refine ht (i := 2) rfl (by kernel_rfl) rfl rfl rfl (fun w hw => hw.back (Gh.refl _) h054 (.cons_cons _ (.cons_cons _ (.cons _ (.cons_cons _ (.cons _ (.cons_cons _ (.cons_cons _ .slnil)))))))) (q_ldA (i := 0) (cs := cs_47) rfl (by rw [(hM_47.len.trans hl_47)]; exact (leaf_lt (inb_lt hk17) (inb_lt hk18))) rfl Tryz.isAgg119 rfl) ?_
          refine ht (i := 3) rfl (by kernel_rfl) rfl rfl rfl (fun w hw => hw.back (Gh.refl _) h054 (.cons_cons _ (.cons_cons _ (.cons _ (.cons_cons _ (.cons _ (.cons_cons _ (.cons_cons _ .slnil)))))))) (q_fl 0 fld_70_0 rfl rfl rfl) ?_
          refine ht (i := 4) rfl (by kernel_rfl) rfl rfl rfl (fun w hw => hw.back (Gh.refl _) h054 (.cons_cons _ (.cons_cons _ (.cons _ (.cons_cons _ (.cons _ (.cons_cons _ (.cons_cons _ .slnil)))))))) (q_ldl (i := 4) (v := .string r_.key) rfl rfl Tryz.isAgg9 rfl rfl) ?_
          refine ht (i := 5) rfl (by kernel_rfl) rfl rfl rfl (fun w hw => hw.back (Gh.refl _) h054 (.cons_cons _ (.cons_cons _ (.cons _ (.cons_cons _ (.cons _ (.cons_cons _ (.cons_cons _ .slnil)))))))) (q_ldla (i := 4) (vs := [.string r_.key, .slice Ar_1 r_.vers.length cr_1]) rfl rfl Tryz.isAgg70 Tryz.sizeOf70 rfl rfl) ?_
          refine WH.lone (i := 6) (by kernel_rfl) rfl ?_
          obtain ⟨z55, hz56, h⟩ := bnd h
          refine e_call (is := []) rfl rfl (call_run Tryz.call79 rfl rfl (by kernel_rfl)) rfl (fun w hp => t_tree_own r_ (Rec.fits_mono hr_ hl8) hp hz56) ?_
          rintro Γ57 U59 v60 hl58 ⟨A61, c62, rfl, rfl, hr63, _⟩
          change WR _ _ _ (CC F Γ57 [[(gt_, .cells (cs_47 ++ [Value.map (some sm_47)]).toArray (tg0 123).1 (0, 0))], rA_48, r_48, rB_48, rS_47, row13, [(g1, .cells #[.string r_.key, .slice Ar_1 r_.vers.length cr_1] 70 (0, 0))]]) _ _ (upd _ 46 (.agg #[.string z55.key, .slice A61 z55.vers.length c62]))
          refine WR.nil ?_
          refine WH.next (fun w hw => hw.back hl58 h054 (.cons_cons _ (.cons_cons _ (.cons _ (.cons_cons _ (.cons _ (.cons_cons _ (.cons_cons _ .slnil)))))))) ?_
          refine WH.lone (i := 7) (by kernel_rfl) rfl ?_
          refine e_mapUpdate (i := 2) (x := r_.key) (v := .agg #[.string z55.key, .slice A61 z55.vers.length c62]) (a := z55) rfl rfl rfl Tryz.underlying119 (Eq.trans (b := cgt cs_47 (0 + ((gt z5 0).toNat) * 16 + ((gt z5 1).toNat) * 1)) rfl hc52) rfl (by kernel_rfl) rfl (hm53.mono hl58) (by exact ⟨_, rfl, ⟨A61, c62, rfl, hr63⟩⟩) hr_.1 ?_
          intro row64 hm65
          refine WR.nil ?_
          refine WH.next (fun w hw => hw.back hl58 h054 (.cons_cons _ (.cons_cons _ (.cons _ (.cons_cons _ (.cons _ (.cons_cons _ (.cons_cons _ .slnil)))))))) ?_
          refine WH.done (by kernel_rfl) ?_
          intro w hw
          obtain ⟨row_66, hrow_66, hob_66⟩ : ∃ rw : Rowb, rw = ([[(gt_, .cells (cs_47 ++ [Value.map (some sm_47)]).toArray (tg0 123).1 (0, 0))], rA_48, row64, rB_48, rS_47] : List Rowb).flatten ∧ OTree.ob (tg0 123) Γ57 gt_ rw (⟨(List.set (⟨(List.set o19.leaves (0 + ((gt z5 0).toNat) * 16 + ((gt z5 1).toNat) * 1) (some (mdel r_.key es32))), o19.sums⟩ : OTree).leaves (0 + ((gt z5 0).toNat) * 16 + ((gt z5 1).toNat) * 1) (some (mput r_.key z55 es49))), (⟨(List.set o19.leaves (0 + ((gt z5 0).toNat) * 16 + ((gt z5 1).toNat) * 1) (some (mdel r_.key es32))), o19.sums⟩ : OTree).sums⟩ : OTree) := ⟨_, rfl, cs_47, (rA_48 ++ (row64 ++ rB_48)), sm_47, rS_47, (by simp only [List.flatten_cons, List.flatten_nil, List.append_nil, List.append_assoc]), (by have h9 := hcl_48 _ (.map (some m51)) row64 (some (mput r_.key z55 es49)) hl58 ⟨m51, rfl, hm65⟩; rw [set_cgt hc52] at h9; exact h9), (List.length_set.trans hl_47), (hS_47.mono hl58), trivial⟩
          have hw := hw.fold (is := [0, 0, 0, 0, 0]) rfl hrow_66
          exact ⟨(⟨(List.set (⟨(List.set o19.leaves (0 + ((gt z5 0).toNat) * 16 + ((gt z5 1).toNat) * 1) (some (mdel r_.key es32))), o19.sums⟩ : OTree).leaves (0 + ((gt z5 0).toNat) * 16 + ((gt z5 1).toNat) * 1) (some (mput r_.key z55 es49))), (⟨(List.set o19.leaves (0 + ((gt z5 0).toNat) * 16 + ((gt z5 1).toNat) * 1) (some (mdel r_.key es32))), o19.sums⟩ : OTree).sums⟩ : OTree), Γ57, row_66, h, (sl_ (by kernel_rfl)), (hw.only (is := [0, 0]) rfl), hl58, hob_66, trivial⟩
        · skip
          refine WC.skip ?_
          intro w hw
          exact ⟨(⟨(List.set o19.leaves (0 + ((gt z5 0).toNat) * 16 + ((gt z5 1).toNat) * 1) (some (mdel r_.key es32))), o19.sums⟩ : OTree), Γ7, row_40, h, (sl_ (by kernel_rfl)), (hw.only (is := [0, 0]) rfl), (Gh.refl _), hob_40, trivial⟩
      · skip
        rintro σ w ⟨o43, Γ41, row44, h, hsl, hw, hl42, ho45, -⟩
        refine Wpt.slots hsl ?_
        refine WC.here (C := CC F Γ41 [row44, row13]) ?_ hw
        clear hw hsl
        refine WC.rs ?_
        refine va rfl rfl rfl (q_move (v := .pointer (some ⟨gt_, 0, none⟩)) rfl (by kernel_rfl)) ?_
        refine va rfl rfl rfl (q_nil (A := some ⟨gt_, 0, none⟩) rfl rfl rfl) ?_
        refine va rfl rfl rfl (q_fl 256 fld_123_1 rfl rfl rfl) ?_
        have hq := ho45
        obtain ⟨cs_67, rL_67, sm_67, rS_67, hrow_67, hM_67, hl_67, hS_67, -⟩ := hq
        intro w hw; have hw := hw.unfold (i := 0) rfl hrow_67
        refine WR.here (C := CC F Γ41 [[(gt_, .cells (cs_67 ++ [Value.map (some sm_67)]).toArray (tg0 123).1 (0, 0))], rL_67, rS_67, row13]) ?_ hw
        clear hw
        refine va rfl rfl rfl (q_ldAe (i := 0) (cs := cs_67) rfl (hM_67.len.trans hl_67) rfl Tryz.isAgg118 rfl) ?_
        refine va rfl rfl rfl (q_build' (v := .agg #[.int .i64 0, .int .i64 0, .int .i64 0]) rfl (bargs3 rfl rfl rfl) (fun w => by kernel_rfl)) ?_
        refine e_sdelete (i := 2) (x := (0, 0, 0)) rfl hS_67 rfl rfl rfl Tryz.underlying118 rfl rfl ?_
        intro row68 hm69
        refine WR.nil ?_
        change WC _ _ _ _ _ _
        refine WC.seq ?_
        intro w hw; have h070 := hw.le
        refine WC.here (C := CC F Γ41 [[(gt_, .cells (cs_67 ++ [Value.map (some sm_67)]).toArray (tg0 123).1 (0, 0))], rL_67, row68, row13]) ?_ hw; clear hw
        refine WC.held (CC F Γ41 [[(gt_, .cells (cs_67 ++ [Value.map (some sm_67)]).toArray (tg0 123).1 (0, 0))], rL_67, row13]) (by kernel_rfl) (fun w hw => hw.drawn _) ?_
        change WH _ _ _ _ (CC F Γ41 [[(gt_, .cells (cs_67 ++ [Value.map (some sm_67)]).toArray (tg0 123).1 (0, 0))], rL_67, row68, row13]) _ 9 #[false, false, false, false, false, false, false, false, false] _
        refine ht (i := 0) rfl (by kernel_rfl) rfl rfl rfl (fun w hw => hw.back (Gh.refl _) h070 (.cons_cons _ (.cons_cons _ (.cons _ (.cons_cons _ .slnil))))) (q_move (v := .pointer (some ⟨gt_, 0, none⟩)) rfl (by kernel_rfl)) ?_
        refine ht (i := 1) rfl (by kernel_rfl) rfl rfl rfl (fun w hw => hw.back (Gh.refl _) h070 (.cons_cons _ (.cons_cons _ (.cons _ (.cons_cons _ .slnil))))) (q_nil (A := some ⟨gt_, 0, none⟩) rfl rfl rfl) ?_
        refine ht (i := 2) rfl (by kernel_rfl) rfl rfl rfl (fun w hw => hw.back (Gh.refl _) h070 (.cons_cons _ (.cons_cons _ (.cons _ (.cons_cons _ .slnil))))) (q_fl 256 fld_123_1 rfl rfl rfl) ?_
        refine ht (i := 3) rfl (by kernel_rfl) rfl rfl rfl (fun w hw => hw.back (Gh.refl _) h070 (.cons_cons _ (.cons_cons _ (.cons _ (.cons_cons _ .slnil))))) (q_ldAe (i := 0) (cs := cs_67) rfl (hM_67.len.trans hl_67) rfl Tryz.isAgg118 rfl) ?_
        refine ht (i := 4) rfl (by kernel_rfl) rfl rfl rfl (fun w hw => hw.back (Gh.refl _) h070 (.cons_cons _ (.cons_cons _ (.cons _ (.cons_cons _ .slnil))))) (q_move (v := .slice A11 z5.length c12) rfl (by kernel_rfl)) ?_
        refine ht (i := 5) rfl (by kernel_rfl) rfl rfl rfl (fun w hw => hw.back (Gh.refl _) h070 (.cons_cons _ (.cons_cons _ (.cons _ (.cons_cons _ .slnil))))) (q_ixn (i := 0) Tryz.underlying24 Tryz.sizeOf3 rfl rfl rfl (of_decide_eq_true hk15) ((hr14.mono hl42).some_ (of_decide_eq_true hk15))) ?_
        refine ht (i := 6) rfl (by kernel_rfl) rfl rfl rfl (fun w hw => hw.back (Gh.refl _) h070 (.cons_cons _ (.cons_cons _ (.cons _ (.cons_cons _ .slnil))))) (q_ldo (c := 0) (v := .int .i64 (gt z5 0)) (i := 2) rfl ((hr14.mono hl42).intT_at (of_decide_eq_true hk15)).2 rfl Tryz.isAgg3 rfl rfl) ?_
        refine ht (i := 7) rfl (by kernel_rfl) rfl rfl rfl (fun w hw => hw.back (Gh.refl _) h070 (.cons_cons _ (.cons_cons _ (.cons _ (.cons_cons _ .slnil))))) (q_build' (v := .agg #[.int .i64 1, .int .i64 (gt z5 0), .int .i64 0]) rfl (bargs3 rfl rfl rfl) (fun w => by kernel_rfl)) ?_
        refine WH.lone (i := 8) (by kernel_rfl) rfl ?_
        refine e_sdelete (i := 2) (x := (1, (gt z5 0), 0)) rfl hm69 rfl rfl rfl Tryz.underlying118 rfl rfl ?_
        intro row71 hm72
        refine WR.nil ?_
        refine WH.next (fun w hw => hw.back (Gh.refl _) h070 (.cons_cons _ (.cons_cons _ (.cons _ (.cons_cons _ .slnil))))) ?_
        refine WH.done (by kernel_rfl) ?_
        change WC _ _ _ _ _ _
        refine WC.seq ?_
        intro w hw; have h073 := hw.le
        refine WC.here (C := CC F Γ41 [[(gt_, .cells (cs_67 ++ [Value.map (some sm_67)]).toArray (tg0 123).1 (0, 0))], rL_67, row71, row13]) ?_ hw; clear hw
        refine WC.held (CC F Γ41 [[(gt_, .cells (cs_67 ++ [Value.map (some sm_67)]).toArray (tg0 123).1 (0, 0))], rL_67, row13]) (by kernel_rfl) (fun w hw => hw.drawn _) ?_
        change WH _ _ _ _ (CC F Γ41 [[(gt_, .cells (cs_67 ++ [Value.map (some sm_67)]).toArray (tg0 123).1 (0, 0))], rL_67, row71, row13]) _ 12 #[false, false, false, false, false, false, false, false, false, false, false, false] _
        refine ht (i := 0) rfl (by kernel_rfl) rfl rfl rfl (fun w hw => hw.back (Gh.refl _) h073 (.cons_cons _ (.cons_cons _ (.cons _ (.cons_cons _ .slnil))))) (q_move (v := .pointer (some ⟨gt_, 0, none⟩)) rfl (by kernel_rfl)) ?_
        refine ht (i := 1) rfl (by kernel_rfl) rfl rfl rfl (fun w hw => hw.back (Gh.refl _) h073 (.cons_cons _ (.cons_cons _ (.cons _ (.cons_cons _ .slnil))))) (q_nil (A := some ⟨gt_, 0, none⟩) rfl rfl rfl) ?_
        refine ht (i := 2) rfl (by kernel_rfl) rfl rfl rfl (fun w hw => hw.back (Gh.refl _) h073 (.cons_cons _ (.cons_cons _ (.cons _ (.cons_cons _ .slnil))))) (q_fl 256 fld_123_1 rfl rfl rfl) ?_
        refine ht (i := 3) rfl (by kernel_rfl) rfl rfl rfl (fun w hw => hw.back (Gh.refl _) h073 (.cons_cons _ (.cons_cons _ (.cons _ (.cons_cons _ .slnil))))) (q_ldAe (i := 0) (cs := cs_67) rfl (hM_67.len.trans hl_67) rfl Tryz.isAgg118 rfl) ?_
        refine ht (i := 4) rfl (by kernel_rfl) rfl rfl rfl (fun w hw => hw.back (Gh.refl _) h073 (.cons_cons _ (.cons_cons _ (.cons _ (.cons_cons _ .slnil))))) (q_move (v := .slice A11 z5.length c12) rfl (by kernel_rfl)) ?_
        refine ht (i := 5) rfl (by kernel_rfl) rfl rfl rfl (fun w hw => hw.back (Gh.refl _) h073 (.cons_cons _ (.cons_cons _ (.cons _ (.cons_cons _ .slnil))))) (q_ixn (i := 0) Tryz.underlying24 Tryz.sizeOf3 rfl rfl rfl (of_decide_eq_true hk15) ((hr14.mono hl42).some_ (of_decide_eq_true hk15))) ?_
        refine ht (i := 6) rfl (by kernel_rfl) rfl rfl rfl (fun w hw => hw.back (Gh.refl _) h073 (.cons_cons _ (.cons_cons _ (.cons _ (.cons_cons _ .slnil))))) (q_ldo (c := 0) (v := .int .i64 (gt z5 0)) (i := 2) rfl ((hr14.mono hl42).intT_at (of_decide_eq_true hk15)).2 rfl Tryz.isAgg3 rfl rfl) ?_
        refine ht (i := 7) rfl (by kernel_rfl) rfl rfl rfl (fun w hw => hw.back (Gh.refl _) h073 (.cons_cons _ (.cons_cons _ (.cons _ (.cons_cons _ .slnil))))) (q_move (v := .slice A11 z5.length c12) rfl (by kernel_rfl)) ?_
        refine ht (i := 8) rfl (by kernel_rfl) rfl rfl rfl (fun w hw => hw.back (Gh.refl _) h073 (.cons_cons _ (.cons_cons _ (.cons _ (.cons_cons _ .slnil))))) (q_ixn (i := 1) Tryz.underlying24 Tryz.sizeOf3 rfl rfl rfl (of_decide_eq_true hk16) ((hr14.mono hl42).some_ (of_decide_eq_true hk16))) ?_
        refine ht (i := 9) rfl (by kernel_rfl) rfl rfl rfl (fun w hw => hw.back (Gh.refl _) h073 (.cons_cons _ (.cons_cons _ (.cons _ (.cons_cons _ .slnil))))) (q_ldo (c := 0) (v := .int .i64 (gt z5 1)) (i := 2) rfl ((hr14.mono hl42).intT_at (of_decide_eq_true hk16)).2 rfl Tryz.isAgg3 rfl rfl) ?_
        refine ht (i := 10) rfl (by kernel_rfl) rfl rfl rfl (fun w hw => hw.back (Gh.refl _) h073 (.cons_cons _ (.cons_cons _ (.cons _ (.cons_cons _ .slnil))))) (q_build' (v := .agg #[.int .i64 2, .int .i64 (gt z5 0), .int .i64 (gt z5 1)]) rfl (bargs3 rfl rfl rfl) (fun w => by kernel_rfl)) ?_
        refine WH.lone (i := 11) (by kernel_rfl) rfl ?_
        refine e_sdelete (i := 2) (x := (2, (gt z5 0), (gt z5 1))) rfl hm72 rfl rfl rfl Tryz.underlying118 rfl rfl ?_
        intro row74 hm75
        refine WR.nil ?_
        refine WH.next (fun w hw => hw.back (Gh.refl _) h073 (.cons_cons _ (.cons_cons _ (.cons _ (.cons_cons _ .slnil))))) ?_
        refine WH.done (by kernel_rfl) ?_
        change WC _ _ _ _ _ _
        refine WC.rs ?_
        refine va rfl rfl rfl (q_assign (v := .int .i64 0) rfl (by kernel_rfl)) ?_
        refine WR.nil ?_
        change WC _ _ _ _ _ _
        refine WC.ret ?_
        intro w hw
        obtain ⟨row_76, hrow_76, hob_76⟩ : ∃ rw : Rowb, rw = ([[(gt_, .cells (cs_67 ++ [Value.map (some sm_67)]).toArray (tg0 123).1 (0, 0))], rL_67, row74] : List Rowb).flatten ∧ OTree.ob (tg0 123) Γ41 gt_ rw (⟨o43.leaves, (mdel (2, (gt z5 0), (gt z5 1)) (mdel (1, (gt z5 0), 0) (mdel (0, 0, 0) o43.sums)))⟩ : OTree) := ⟨_, rfl, cs_67, rL_67, sm_67, row74, (by simp only [List.flatten_cons, List.flatten_nil, List.append_nil, List.append_assoc]), hM_67, hl_67, hm75, trivial⟩
        have hw := hw.fold (is := [0, 0, 0]) rfl hrow_76
        obtain rfl := Option.some.inj h
        subst hF
        exact end_e (is := [0]) (by kernel_rfl) hw rfl ⟨row_76, rfl, rfl, hob_76, (show I64 0 by decide), trivial⟩
abbrev r_tree_New (r : (Option OTree) × Int) (U : List Rowb) (Γ : Gh) (v : Value) : Prop := ∃ (g0 : Nat), ∃ (row0 : Rowb), v = .tuple #[optp r.1 g0, .int .i64 r.2] ∧ U = [row0] ∧ optob (OTree.ob (tg0 123) Γ g0) row0 r.1 ∧ I64 r.2 ∧ True
set_option maxRecDepth 100000 in
set_option maxHeartbeats 400000 in
theorem t_tree_New {Γ : Gh} {w0 : World} {Alist : Option Addr} {clist : Nat} {list : List Rec} (hlist : Sl recT Γ Alist list) (hlistc : list.length ≤ clist) (hp : Pre [] Γ w0) {r : (Option OTree) × Int} (h : m_tree_New list = some r) : Calls Tryz.prog 44 #[.slice Alist list.length clist] w0 (Outc Γ [] w0 (r_tree_New r)) := by
  refine calls_of (N := 25) (rs := [2, 3]) (args := [.slice Alist list.length clist]) Tryz.func44 rfl Tryz.ntmps44 Tryz.results44 rfl ?_
  obtain ⟨F, hF⟩ : ∃ F : Fm, F = ⟨ids [], w0, Γ⟩ := ⟨_, rfl⟩
  refine WC.here (C := CC F Γ []) ?_ (hF ▸ hp.start)
  refine WC.rs ?_
  refine va rfl rfl rfl (q_assign (v := .pointer none) rfl (by kernel_rfl)) ?_
  refine va rfl rfl rfl (q_assign (v := .int .i64 0) rfl (by kernel_rfl)) ?_
  refine WR.nil ?_
  change WC _ _ _ _ _ _
  refine WC.rs ?_
  refine e_makeMap kk125 refV rfl rfl rfl rfl ?_
  intro g1 row2 hm3
  refine va rfl rfl rfl (q_build' (v := .agg (List.replicate 256 (Value.map none) ++ [Value.map (some g1)]).toArray) rfl (bargs1 rfl) (fun w => by kernel_rfl)) ?_
  refine e_box (v := .agg (List.replicate 256 (Value.map none) ++ [Value.map (some g1)]).toArray) rfl rfl rfl rfl (by kernel_rfl) ?_
  intro g4
  obtain ⟨row_5, hrow_5, hob_5⟩ : ∃ rw : Rowb, rw = ([[(g4, .cells (List.replicate 256 (Value.map none) ++ [Value.map (some g1)]).toArray (tg0 123).1 (0, 0))], row2] : List Rowb).flatten ∧ OTree.ob (tg0 123) Γ g4 rw (⟨List.replicate 256 none, []⟩ : OTree) := ⟨_, rfl, List.replicate 256 (Value.map none), [], g1, row2, (by simp only [List.flatten_cons, List.flatten_nil, List.append_nil, List.nil_append]), MapsA.nils (strK Tryz.underlying9) recT.ag _ 256, List.length_replicate, Sums.new hm3, trivial⟩
  refine WR.sub (fun w hw => Cur.fold (is := [0, 0]) (row := row_5) hw rfl hrow_5) ?_
  change WR _ _ _ (CC F Γ [row_5]) _ _ (upd _ 10 (.pointer (some ⟨g4, 0, none⟩)))
  refine va rfl rfl rfl (q_assign (v := .pointer (some ⟨g4, 0, none⟩)) rfl (by kernel_rfl)) ?_
  refine WR.nil ?_
  change WC _ _ _ _ _ _
  refine WC.seq ?_
  refine WC.rs ?_
  refine va rfl rfl rfl (q_move (v := .slice Alist list.length clist) rfl (by kernel_rfl)) ?_
  refine va rfl rfl rfl (q_len_slice rfl Tryz.underlying23 rfl) ?_
  refine va rfl rfl rfl (q_move (v := .int .i64 0) rfl (by kernel_rfl)) ?_
  refine WR.nil ?_
  change WC _ _ _ _ _ _
  refine WC.block ?_
  refine WC.forI h (fun (i12 : Nat) (o8 : OTree) σ w => ∃ (Γ6 : Gh), ∃ (row9 : Rowb), slots σ [(4, .pointer (some ⟨g4, 0, none⟩)), (11, .slice Alist list.length clist), (12, .int .i64 ((list.length : Nat) : Int)), (13, .int .i64 ((i12 : Nat) : Int))] ∧ CC F Γ6 [row9] w ∧ Gh.le Γ Γ6 ∧ OTree.ob (tg0 123) Γ6 g4 row9 o8 ∧ True) ?_ ?_
  · skip
    intro w hw
    exact ⟨Γ, row_5, (sl_ (by kernel_rfl)), hw, (Gh.refl _), hob_5, trivial⟩
  rintro f11 i12 o8 σ w hi13 hlt14 hge15 ⟨Γ6, row9, hsl, hw, hl7, ho10, -⟩
  refine Wpt.slots hsl ?_
  refine WC.here (C := CC F Γ6 [row9]) ?_ hw
  clear hw hsl
  refine WC.rs ?_
  refine va rfl rfl rfl (q_lss rfl rfl rfl) ?_
  refine WR.nil ?_
  change WC _ _ _ _ _ _
  refine WC.seq ?_
  refine WC.cond (b := (decide (((i12 : Nat) : Int) < ((list.length : Nat) : Int)))) (by kernel_rfl) (fun hb16 => ?_) (fun hb16 => ?_)
  · skip
    have hl17 := ilt hb16
    have h := hlt14 hl17
    refine WC.skip ?_
    change WC _ _ _ _ _ _
    refine WC.seq ?_
    refine WC.block ?_
    refine WC.rs ?_
    refine va rfl rfl rfl (q_ixn (i := i12) Tryz.underlying23 Tryz.sizeOf70 rfl rfl rfl hl17 ((hlist.mono hl7).some_ hl17)) ?_
    obtain ⟨A18, c19, hx20⟩ := (hlist.mono hl7).recT_at i12
    refine va rfl rfl rfl (q_lda (c := 0) (vs := [.string (gt list i12).key, .slice A18 ((gt list i12).vers).length c19]) (hx20 hl17).2 rfl Tryz.isAgg70 Tryz.sizeOf70 rfl rfl rfl) ?_
    refine e_alloc Tryz.zeroValue70 rfl rfl rfl rfl ?_
    intro g21
    refine e_st (i := 0) (v := .agg #[.string (gt list i12).key, .slice A18 ((gt list i12).vers).length c19]) (new := #[.string (gt list i12).key, .slice A18 ((gt list i12).vers).length c19]) rfl Tryz.sizeOf70 rfl rfl rfl rfl (by kernel_rfl) rfl rfl rfl rfl ?_
    refine WR.nil ?_
    change WC _ _ _ _ _ _
    refine WC.rs ?_
    refine va rfl rfl rfl (q_move (v := .pointer (some ⟨g4, 0, none⟩)) rfl (by kernel_rfl)) ?_
    refine va rfl rfl rfl (q_ldla (i := 0) (vs := [.string (gt list i12).key, .slice A18 ((gt list i12).vers).length c19]) rfl rfl Tryz.isAgg70 Tryz.sizeOf70 rfl rfl) ?_
    obtain ⟨z22, hz23, h⟩ := bnd h
    refine e_call (is := [1]) rfl rfl (call_run Tryz.call66 rfl rfl (by kernel_rfl)) rfl (fun w hp => t_tree_Tree_Set ho10 (gt list i12) (hx20 hl17).1 hp hz23) ?_
    rintro Γ24 U26 v27 hl25 ⟨row28, rfl, rfl, hr29, hr30, _⟩
    change WR _ _ _ (CC F Γ24 [row28, [(g21, .cells #[.string (gt list i12).key, .slice A18 ((gt list i12).vers).length c19] 70 (0, 0))]]) _ _ (upd _ 19 (.int .i64 z22.2))
    refine va rfl rfl rfl (q_assign (v := .int .i64 z22.2) rfl (by kernel_rfl)) ?_
    refine WR.nil ?_
    change WC _ _ _ _ _ _
    refine WC.rs ?_
    refine va rfl rfl rfl (q_move (v := .int .i64 z22.2) rfl (by kernel_rfl)) ?_
    refine va rfl rfl rfl (q_neq rfl rfl rfl) ?_
    refine WR.nil ?_
    change WC _ _ _ _ _ _
    refine WC.cif h (by kernel_rfl) (fun hb31 h => ?_) (fun hb31 h => ?_)
    · skip
      refine WC.rs ?_
      refine va rfl rfl rfl (q_move (v := .int .i64 z22.2) rfl (by kernel_rfl)) ?_
      refine va rfl rfl rfl (q_assign (v := .pointer none) rfl (by kernel_rfl)) ?_
      refine va rfl rfl rfl (q_assign (v := .int .i64 z22.2) rfl (by kernel_rfl)) ?_
      refine WR.nil ?_
      change WC _ _ _ _ _ _
      refine WC.ret ?_
      intro w hw
      have hw := hw.pad
      obtain rfl := Option.some.inj h
      subst hF
      exact end_e (is := [0]) (by kernel_rfl) hw rfl ⟨0, [], rfl, rfl, rfl, hr30, trivial⟩
    · skip
      refine WC.skip ?_
      change WC _ _ _ _ _ _
      refine WC.region ?_
      refine va rfl rfl rfl (q_add_r (r := ((i12 + 1 : Nat) : Int)) rfl rfl rfl (ctr_len hl17 (hlist.mono hl7).le)) ?_
      refine va rfl rfl rfl (q_move (v := .int .i64 ((i12 + 1 : Nat) : Int)) rfl (by kernel_rfl)) ?_
      refine WR.nil ?_
      intro w hw
      exact ⟨hl17, z22.1, h, Γ24, row28, (sl_ (by kernel_rfl)), (hw.only (is := [0]) rfl), (hl7.trans hl25), hr29, trivial⟩
  · skip
    have h := hge15 (ige hb16)
    refine WC.exit ?_
    change WC _ _ _ _ _ _
    refine WC.rs ?_
    refine va rfl rfl rfl (q_move (v := .pointer (some ⟨g4, 0, none⟩)) rfl (by kernel_rfl)) ?_
    refine va rfl rfl rfl (q_assign (v := .pointer (some ⟨g4, 0, none⟩)) rfl (by kernel_rfl)) ?_
    refine va rfl rfl rfl (q_assign (v := .int .i64 0) rfl (by kernel_rfl)) ?_
    refine WR.nil ?_
    change WC _ _ _ _ _ _
    refine WC.ret ?_
    intro w hw
    obtain rfl := Option.some.inj h
    subst hF
    exact end_e (is := [0]) (by kernel_rfl) hw rfl ⟨g4, row9, rfl, rfl, ho10, (show I64 0 by decide), trivial⟩
abbrev r_slices_Clone_api_Span_api_Span_l1 (r : List Span) (U : List Rowb) (Γ : Gh) (v : Value) : Prop := ∃ (A0 : Option Addr), ∃ (c0 : Nat), ∃ (row0 : Rowb), v = .slice A0 r.length c0 ∧ U = [row0] ∧ Own spanT Γ 117 row0 A0 c0 r ∧ True
set_option maxRecDepth 100000 in
set_option maxHeartbeats 400000 in
theorem t_slices_Clone_api_Span_api_Span_l1 {Γ : Gh} {w0 : World} {B : Gh} {As_ : Option Addr} {cs_ : Nat} {s_ : List Span} (hs_ : Sl spanT B As_ s_) (hs_c : s_.length ≤ cs_) (hp : Pre [] Γ w0) (hpB : Pre [] B w0) {r : List Span} (h : m_slices_Clone_api_Span_api_Span s_ = some r) : Calls Tryz.prog 96 #[.slice As_ s_.length cs_] w0 (Outc Γ [] w0 (r_slices_Clone_api_Span_api_Span_l1 r)) := by
  refine calls_of (N := 8) (rs := [2]) (args := [.slice As_ s_.length cs_]) Tryz.func96 rfl Tryz.ntmps96 Tryz.results96 rfl ?_
  obtain ⟨F, hF⟩ : ∃ F : Fm, F = ⟨ids [], w0, Γ⟩ := ⟨_, rfl⟩
  refine WC.here (C := CC F Γ []) ?_ (hF ▸ hp.start)
  have hB : Lent F B := hF ▸ Lent.start hpB
  refine WC.rs ?_
  refine va rfl rfl rfl (q_assign (v := .slice none 0 0) rfl (by kernel_rfl)) ?_
  refine WR.nil ?_
  change WC _ _ _ _ _ _
  refine WC.seq ?_
  refine WC.rs ?_
  refine va rfl rfl rfl (q_move (v := .slice As_ s_.length cs_) rfl (by kernel_rfl)) ?_
  refine va rfl rfl rfl (q_nil_slice Tryz.underlying113 rfl rfl rfl) ?_
  refine WR.nil ?_
  change WC _ _ _ _ _ _
  refine WC.cnil h (by kernel_rfl) (fun hb => hs_.none_nil hb) (fun hb1 h => ?_) (fun hb1 h => ?_)
  · skip
    refine WC.rs ?_
    refine va rfl rfl rfl (q_assign (v := .slice none 0 0) rfl (by kernel_rfl)) ?_
    refine WR.nil ?_
    change WC _ _ _ _ _ _
    refine WC.ret ?_
    intro w hw
    have hw := hw.pad
    obtain rfl := Option.some.inj h
    subst hF
    exact end_e (is := [0]) (by kernel_rfl) hw rfl ⟨none, 0, [], rfl, rfl, (Own.nil spanT _ 117), trivial⟩
  · skip
    refine WC.skip ?_
    change WC _ _ _ _ _ _
    refine WC.rs ?_
    refine e_buildSlice (cs := #[]) (e := 117) rfl rfl rfl rfl (fun w => by kernel_rfl) ?_
    intro g2
    refine va rfl rfl rfl (q_move (v := .slice As_ s_.length cs_) rfl (by kernel_rfl)) ?_
    have ho3 : Own spanT Γ 117 [(g2, .cells #[] 117 (0, 0))] (some ⟨g2, 0, none⟩) 0 ([] : List Span) := Own.of_blockL (T := spanT) (ys := ([] : List Span)) [] rfl (show 0 ≤ lim by decide) (show True from trivial)
    obtain ⟨hk4, h⟩ := chk_some h
    refine e_append (T := spanT) (xs := ([] : List Span)) (ys := s_) elem_113 (i := 0) rfl rfl rfl rfl rfl rfl rfl ho3 (of_decide_eq_true hk4) (fun w hw => src_slS (Γ := Γ) (fun w hw => hB.sat hw) (fun _ _ h => h) hs_ hw) ?_
    intro row5 A6 c7 ho8
    refine va rfl rfl rfl (q_assign (v := .slice A6 (([] : List Span) ++ s_).length c7) rfl (by kernel_rfl)) ?_
    refine WR.nil ?_
    change WC _ _ _ _ _ _
    refine WC.ret ?_
    intro w hw
    obtain rfl := Option.some.inj h
    subst hF
    exact end_e (is := [0]) (by kernel_rfl) hw rfl ⟨A6, c7, row5, rfl, rfl, ho8, trivial⟩
abbrev r_slices_Clone_api_Ver_api_Ver_x (B : Gh) (r : List Ver) (U : List Rowb) (Γ : Gh) (v : Value) : Prop := ∃ (A0 : Option Addr), ∃ (c0 : Nat), ∃ (row0 : Rowb), v = .slice A0 r.length c0 ∧ U = [row0] ∧ Own (atT verT B) Γ 115 row0 A0 c0 r ∧ True
set_option maxRecDepth 100000 in
set_option maxHeartbeats 400000 in
theorem t_slices_Clone_api_Ver_api_Ver_x {Γ : Gh} {w0 : World} {B : Gh} {As_ : Option Addr} {cs_ : Nat} {s_ : List Ver} (hs_ : Sl verT B As_ s_) (hs_c : s_.length ≤ cs_) (hp : Pre [] Γ w0) (hpB : Pre [] B w0) {r : List Ver} (h : m_slices_Clone_api_Ver_api_Ver s_ = some r) : Calls Tryz.prog 95 #[.slice As_ s_.length cs_] w0 (Outc Γ [] w0 (r_slices_Clone_api_Ver_api_Ver_x B r)) := by
  refine calls_of (N := 8) (rs := [2]) (args := [.slice As_ s_.length cs_]) Tryz.func95 rfl Tryz.ntmps95 Tryz.results95 rfl ?_
  obtain ⟨F, hF⟩ : ∃ F : Fm, F = ⟨ids [], w0, Γ⟩ := ⟨_, rfl⟩
  refine WC.here (C := CC F Γ []) ?_ (hF ▸ hp.start)
  have hB : Lent F B := hF ▸ Lent.start hpB
  refine WC.rs ?_
  refine va rfl rfl rfl (q_assign (v := .slice none 0 0) rfl (by kernel_rfl)) ?_
  refine WR.nil ?_
  change WC _ _ _ _ _ _
  refine WC.seq ?_
  refine WC.rs ?_
  refine va rfl rfl rfl (q_move (v := .slice As_ s_.length cs_) rfl (by kernel_rfl)) ?_
  refine va rfl rfl rfl (q_nil_slice Tryz.underlying67 rfl rfl rfl) ?_
  refine WR.nil ?_
  change WC _ _ _ _ _ _
  refine WC.cnil h (by kernel_rfl) (fun hb => hs_.none_nil hb) (fun hb1 h => ?_) (fun hb1 h => ?_)
  · skip
    refine WC.rs ?_
    refine va rfl rfl rfl (q_assign (v := .slice none 0 0) rfl (by kernel_rfl)) ?_
    refine WR.nil ?_
    change WC _ _ _ _ _ _
    refine WC.ret ?_
    intro w hw
    have hw := hw.pad
    obtain rfl := Option.some.inj h
    subst hF
    exact end_e (is := [0]) (by kernel_rfl) hw rfl ⟨none, 0, [], rfl, rfl, (Own.nil (atT verT B) _ 115), trivial⟩
  · skip
    refine WC.skip ?_
    change WC _ _ _ _ _ _
    refine WC.rs ?_
    refine e_buildSlice (cs := #[]) (e := 115) rfl rfl rfl rfl (fun w => by kernel_rfl) ?_
    intro g2
    refine va rfl rfl rfl (q_move (v := .slice As_ s_.length cs_) rfl (by kernel_rfl)) ?_
    have ho3 : Own (atT verT B) Γ 115 [(g2, .cells #[] 115 (0, 0))] (some ⟨g2, 0, none⟩) 0 ([] : List Ver) := Own.of_blockL (T := (atT verT B)) (ys := ([] : List Ver)) [] rfl (show 0 ≤ lim by decide) (show True from trivial)
    obtain ⟨hk4, h⟩ := chk_some h
    refine e_append (T := (atT verT B)) (xs := ([] : List Ver)) (ys := s_) (elem_67.at B) (i := 0) rfl rfl rfl rfl rfl rfl rfl ho3 (of_decide_eq_true hk4) (fun w hw => src_slS (Γ := Γ) (T := atT verT B) (fun w hw => hB.sat hw) (fun _ _ h => h) hs_.atB hw) ?_
    intro row5 A6 c7 ho8
    refine va rfl rfl rfl (q_assign (v := .slice A6 (([] : List Ver) ++ s_).length c7) rfl (by kernel_rfl)) ?_
    refine WR.nil ?_
    change WC _ _ _ _ _ _
    refine WC.ret ?_
    intro w hw
    obtain rfl := Option.some.inj h
    subst hF
    exact end_e (is := [0]) (by kernel_rfl) hw rfl ⟨A6, c7, row5, rfl, rfl, ho8, trivial⟩
set_option maxRecDepth 100000 in
set_option maxHeartbeats 400000 in
theorem t_tree_own_x {Γ : Gh} {w0 : World} {B : Gh} {Ar_1 : Option Addr} {cr_1 : Nat} (r_ : Rec) (hr_ : Rec.fits B Ar_1 cr_1 r_) (hp : Pre [] Γ w0) (hpB : Pre [] B w0) {r : Rec} (h : m_tree_own r_ = some r) : Calls Tryz.prog 79 #[.agg #[.string r_.key, .slice Ar_1 r_.vers.length cr_1]] w0 (Outc Γ [] w0 (r_tree_own r)) := by
  refine calls_of_r (N := 28) (rs := [.cell 2 70]) (args := [.agg #[.string r_.key, .slice Ar_1 r_.vers.length cr_1]]) Tryz.func79 rfl Tryz.ntmps79 Tryz.results79 rfl ?_
  obtain ⟨F, hF⟩ : ∃ F : Fm, F = ⟨ids [], w0, Γ⟩ := ⟨_, rfl⟩
  refine WC.here (C := CC F Γ []) ?_ (hF ▸ hp.start)
  have hB : Lent F B := hF ▸ Lent.start hpB
  refine WC.rs ?_
  refine e_box (v := .agg #[.string r_.key, .slice Ar_1 r_.vers.length cr_1]) rfl rfl rfl rfl (by kernel_rfl) ?_
  intro g1
  refine e_alloc Tryz.zeroValue70 rfl rfl rfl rfl ?_
  intro g2
  refine WR.nil ?_
  change WC _ _ _ _ _ _
  refine WC.rs ?_
  refine va rfl rfl rfl (q_fl 1 fld_70_1 rfl rfl rfl) ?_
  refine va rfl rfl rfl (q_ldl (i := 1) (v := .slice Ar_1 r_.vers.length cr_1) rfl rfl Tryz.isAgg67 rfl rfl) ?_
  obtain ⟨z3, hz4, h⟩ := bnd h
  refine e_callW (is := []) rfl rfl (call_run Tryz.call95 rfl rfl (by kernel_rfl)) rfl (fun w hw hp => t_slices_Clone_api_Ver_api_Ver_x (B := B) hr_.2.2 hr_.2.1 hp (hB.pre (is := []) hw rfl) hz4) ?_
  rintro Γ5 U7 v8 hl6 ⟨A9, c10, row11, rfl, rfl, hr12, _⟩
  change WR _ _ _ (CC F Γ5 [row11, [(g2, .cells #[.string ByteArray.empty, .slice none 0 0] 70 (0, 0))], [(g1, .cells #[.string r_.key, .slice Ar_1 r_.vers.length cr_1] 70 (0, 0))]]) _ _ (upd _ 6 (.slice A9 z3.length c10))
  refine va rfl rfl rfl (q_fl 1 fld_70_1 rfl rfl rfl) ?_
  refine e_st (i := 2) (v := .slice A9 z3.length c10) (new := #[.string r_.key, .slice A9 z3.length c10]) rfl Tryz.sizeOf67 rfl rfl rfl rfl (by kernel_rfl) rfl rfl rfl rfl ?_
  refine WR.nil ?_
  change WC _ _ _ _ _ _
  refine WC.seq ?_
  refine WC.rs ?_
  refine va rfl rfl rfl (q_fl 1 fld_70_1 rfl rfl rfl) ?_
  refine va rfl rfl rfl (q_ldl (i := 2) (v := .slice A9 z3.length c10) rfl rfl Tryz.isAgg67 rfl rfl) ?_
  refine va rfl rfl rfl (q_len_slice rfl Tryz.underlying67 rfl) ?_
  refine va rfl rfl rfl (q_move (v := .int .i64 0) rfl (by kernel_rfl)) ?_
  refine WR.nil ?_
  change WC _ _ _ _ _ _
  refine WC.block ?_
  refine WC.forU h (fun (i20 : Nat) (x15 : List Ver) σ w => ∃ (Γ13 : Gh), ∃ (row16 : Rowb), slots σ [(1, .pointer (some ⟨g1, 0, none⟩)), (2, .pointer (some ⟨g2, 0, none⟩)), (10, .int .i64 ((z3.length : Nat) : Int)), (11, .int .i64 ((i20 : Nat) : Int))] ∧ CC F Γ13 [row16, [(g2, .cells #[.string ByteArray.empty, .slice none 0 0] 70 (0, 0))], [(g1, .cells #[.string r_.key, .slice A9 z3.length c10] 70 (0, 0))]] w ∧ Gh.le Γ5 Γ13 ∧ x15.length = z3.length ∧ Own (mixT verT B) Γ13 115 row16 A9 c10 (tg i20 x15) ∧ True) ?_ ?_
  · skip
    intro w hw
    exact ⟨Γ5, row11, (sl_ (by kernel_rfl)), hw, (Gh.refl _), rfl, hr12.mix0, trivial⟩
  rintro f19 i20 x15 σ w hi21 hlt22 hge23 ⟨Γ13, row16, hsl, hw, hl14, hn18, ho17, -⟩
  refine Wpt.slots hsl ?_
  refine WC.here (C := CC F Γ13 [row16, [(g2, .cells #[.string ByteArray.empty, .slice none 0 0] 70 (0, 0))], [(g1, .cells #[.string r_.key, .slice A9 z3.length c10] 70 (0, 0))]]) ?_ hw
  clear hw hsl
  refine WC.rs ?_
  refine va rfl rfl rfl (q_lss rfl rfl rfl) ?_
  refine WR.nil ?_
  change WC _ _ _ _ _ _
  refine WC.seq ?_
  refine WC.cond (b := (decide (((i20 : Nat) : Int) < ((z3.length : Nat) : Int)))) (by kernel_rfl) (fun hb24 => ?_) (fun hb24 => ?_)
  · skip
    have hl25 := ilt hb24
    have h := hlt22 hl25
    refine WC.skip ?_
    change WC _ _ _ _ _ _
    refine WC.seq ?_
    refine WC.block ?_
    refine WC.rs ?_
    refine va rfl rfl rfl (q_move (v := .int .i64 ((i20 : Nat) : Int)) rfl (by kernel_rfl)) ?_
    refine va rfl rfl rfl (q_assign (v := .int .i64 ((i20 : Nat) : Int)) rfl (by kernel_rfl)) ?_
    refine WR.nil ?_
    change WC _ _ _ _ _ _
    intro w hw; have h026 := hw.le
    refine WC.here (C := CC F Γ13 [row16, [(g2, .cells #[.string ByteArray.empty, .slice none 0 0] 70 (0, 0))], [(g1, .cells #[.string r_.key, .slice A9 z3.length c10] 70 (0, 0))]]) ?_ hw; clear hw
    refine WC.held (CC F Γ13 [[(g2, .cells #[.string ByteArray.empty, .slice none 0 0] 70 (0, 0))], [(g1, .cells #[.string r_.key, .slice A9 z3.length c10] 70 (0, 0))]]) (by kernel_rfl) (fun w hw => hw.drawn _) ?_
    change WH _ _ _ _ (CC F Γ13 [row16, [(g2, .cells #[.string ByteArray.empty, .slice none 0 0] 70 (0, 0))], [(g1, .cells #[.string r_.key, .slice A9 z3.length c10] 70 (0, 0))]]) _ 13 #[false, false, false, false, false, false, false, false, false, false, false, false, false] _
    refine ht (i := 0) rfl (by kernel_rfl) rfl rfl rfl (fun w hw => hw.back (Gh.refl _) h026 (.cons _ (.cons_cons _ (.cons_cons _ .slnil)))) (q_fl 1 fld_70_1 rfl rfl rfl) ?_
    refine ht (i := 1) rfl (by kernel_rfl) rfl rfl rfl (fun w hw => hw.back (Gh.refl _) h026 (.cons _ (.cons_cons _ (.cons_cons _ .slnil)))) (q_ldl (i := 1) (v := .slice A9 z3.length c10) rfl rfl Tryz.isAgg67 rfl rfl) ?_
    refine ht (i := 2) rfl (by kernel_rfl) rfl rfl rfl (fun w hw => hw.back (Gh.refl _) h026 (.cons _ (.cons_cons _ (.cons_cons _ .slnil)))) (q_move (v := .int .i64 ((i20 : Nat) : Int)) rfl (by kernel_rfl)) ?_
    refine ht (i := 3) rfl (by kernel_rfl) rfl rfl rfl (fun w hw => hw.back (Gh.refl _) h026 (.cons _ (.cons_cons _ (.cons_cons _ .slnil)))) (q_fl 1 fld_70_1 rfl rfl rfl) ?_
    refine ht (i := 4) rfl (by kernel_rfl) rfl rfl rfl (fun w hw => hw.back (Gh.refl _) h026 (.cons _ (.cons_cons _ (.cons_cons _ .slnil)))) (q_ldl (i := 1) (v := .slice A9 z3.length c10) rfl rfl Tryz.isAgg67 rfl rfl) ?_
    refine ht (i := 5) rfl (by kernel_rfl) rfl rfl rfl (fun w hw => hw.back (Gh.refl _) h026 (.cons _ (.cons_cons _ (.cons_cons _ .slnil)))) (q_move (v := .int .i64 ((i20 : Nat) : Int)) rfl (by kernel_rfl)) ?_
    refine WH.lone (i := 6) (by kernel_rfl) rfl ?_
    refine va rfl rfl rfl (q_ixn (i := i20) Tryz.underlying67 Tryz.sizeOf115 rfl rfl rfl hl25 (ho17.mix_some (ltq hl25 hn18.symm))) ?_
    refine WR.nil ?_
    refine WH.next (fun w hw => hw.back (Gh.refl _) h026 (.cons _ (.cons_cons _ (.cons_cons _ .slnil)))) ?_
    refine WH.lone (i := 7) (by kernel_rfl) rfl ?_
    refine va rfl rfl rfl (q_field_addr (i20 * 5 + 2) fld_115_1 rfl rfl (ho17.mix_some (ltq hl25 hn18.symm)) rfl) ?_
    refine WR.nil ?_
    refine WH.next (fun w hw => hw.back (Gh.refl _) h026 (.cons _ (.cons_cons _ (.cons_cons _ .slnil)))) ?_
    refine WH.lone (i := 8) (by kernel_rfl) rfl ?_
    obtain ⟨_, ⟨A27, c28, rfl, hx29⟩, hx29o⟩ := ho17.mix_at (ltq hl25 hn18.symm)
    refine va rfl rfl rfl (q_ldo (c := 2) (v := .slice A27 ((gt x15 i20).past).length c28) (i := 0) rfl hx29o rfl Tryz.isAgg113 rfl rfl) ?_
    refine WR.nil ?_
    refine WH.next (fun w hw => hw.back (Gh.refl _) h026 (.cons _ (.cons_cons _ (.cons_cons _ .slnil)))) ?_
    refine WH.lone (i := 9) (by kernel_rfl) rfl ?_
    obtain ⟨z30, hz31, h⟩ := bnd h
    refine e_callW (is := []) rfl rfl (call_run Tryz.call96 rfl rfl (by kernel_rfl)) rfl (fun w hw hp => t_slices_Clone_api_Span_api_Span_l1 (B := B) hx29.2.2.1.2 hx29.2.2.1.1 hp (hB.pre (is := []) hw rfl) hz31) ?_
    rintro Γ32 U34 v35 hl33 ⟨A36, c37, row38, rfl, rfl, hr39, _⟩
    change WR _ _ _ (CC F Γ32 [row38, row16, [(g2, .cells #[.string ByteArray.empty, .slice none 0 0] 70 (0, 0))], [(g1, .cells #[.string r_.key, .slice A9 z3.length c10] 70 (0, 0))]]) _ _ (upd _ 23 (.slice A36 z30.length c37))
    refine WR.nil ?_
    refine WH.next (fun w hw => hw.back hl33 h026 (.cons _ (.cons _ (.cons_cons _ (.cons_cons _ .slnil))))) ?_
    refine WH.lone (i := 10) (by kernel_rfl) rfl ?_
    refine va rfl rfl rfl (q_ixn (i := i20) Tryz.underlying67 Tryz.sizeOf115 rfl rfl rfl hl25 ((ho17.mono hl33).mix_some (ltq hl25 hn18.symm))) ?_
    refine WR.nil ?_
    refine WH.next (fun w hw => hw.back hl33 h026 (.cons _ (.cons _ (.cons_cons _ (.cons_cons _ .slnil))))) ?_
    refine WH.lone (i := 11) (by kernel_rfl) rfl ?_
    refine va rfl rfl rfl (q_field_addr (i20 * 5 + 2) fld_115_1 rfl rfl ((ho17.mono hl33).mix_some (ltq hl25 hn18.symm)) rfl) ?_
    refine WR.nil ?_
    refine WH.next (fun w hw => hw.back hl33 h026 (.cons _ (.cons _ (.cons_cons _ (.cons_cons _ .slnil))))) ?_
    refine WH.lone (i := 12) (by kernel_rfl) rfl ?_
    have hc44 := hr39.capz
    intro w hw; obtain ⟨Γ40, hw, hl41, hr42⟩ := hw.seal (i := 0) rfl; have hs43 := hr39.sl hl41 hr42
    refine WR.here (C := CC F Γ40 [[], row16, [(g2, .cells #[.string ByteArray.empty, .slice none 0 0] 70 (0, 0))], [(g1, .cells #[.string r_.key, .slice A9 z3.length c10] 70 (0, 0))]]) ?_ hw
    clear hw
    refine e_store_part (T := mixT verT B) (q := i20) (f := 2) (v := .slice A36 z30.length c37) (vs := [.slice A36 z30.length c37]) (cs := [.int .i64 (gt x15 i20).dot.s, .int .i64 (gt x15 i20).dot.n, .slice A27 ((gt x15 i20).past).length c28, .bool (gt x15 i20).gone, .string (gt x15 i20).val]) (new := [.int .i64 (gt x15 i20).dot.s, .int .i64 (gt x15 i20).dot.n, .slice A36 z30.length c37, .bool (gt x15 i20).gone, .string (gt x15 i20).val]) (y := (true, (⟨(⟨(gt x15 i20).dot.s, (gt x15 i20).dot.n⟩ : Dot), z30, (gt x15 i20).gone, (gt x15 i20).val⟩ : Ver))) rfl rfl rfl rfl (by kernel_rfl) Tryz.sizeOf113 rfl hx29o rfl (Nat.le_of_ble_eq_true rfl) rfl (by exact ⟨A36, c37, rfl, ⟨hx29.1, hx29.2.1, ⟨hc44, hs43⟩, hx29.2.2.2⟩⟩) (i := 1) rfl (ho17.mono (hl33.trans hl41)) (by rw [tg_len]; exact (ltq hl25 hn18.symm)) ?_
    intro row45 ho46
    have ho46 := ho46.mix_set (ltq hl25 hn18.symm)
    refine WR.nil ?_
    refine WH.next (fun w hw => hw.back (hl33.trans hl41) h026 (.cons _ (.cons _ (.cons_cons _ (.cons_cons _ .slnil))))) ?_
    refine WH.done (by kernel_rfl) ?_
    change WC _ _ _ _ _ _
    refine WC.region ?_
    refine va rfl rfl rfl (q_add_r (r := ((i20 + 1 : Nat) : Int)) rfl rfl rfl (ctr_len hl25 (hn18 ▸ ho17.mix_le))) ?_
    refine va rfl rfl rfl (q_move (v := .int .i64 ((i20 + 1 : Nat) : Int)) rfl (by kernel_rfl)) ?_
    refine WR.nil ?_
    intro w hw
    exact ⟨hl25, (List.set x15 i20 (⟨(⟨(gt x15 i20).dot.s, (gt x15 i20).dot.n⟩ : Dot), z30, (gt x15 i20).gone, (gt x15 i20).val⟩ : Ver)), h, Γ40, row45, (sl_ (by kernel_rfl)), (hw.only (is := [1, 1, 1]) rfl), ((hl14.trans hl33).trans hl41), (List.length_set.trans hn18), ho46, trivial⟩
  · skip
    have ho17 := ho17.mix_end (by have := ige hb24; omega)
    have h := hge23 (ige hb24)
    refine WC.exit ?_
    change WC _ _ _ _ _ _
    refine WC.rs ?_
    refine va rfl rfl rfl (q_ldla (i := 2) (vs := [.string r_.key, .slice A9 z3.length c10]) rfl rfl Tryz.isAgg70 Tryz.sizeOf70 rfl rfl) ?_
    refine e_st (i := 1) (v := .agg #[.string r_.key, .slice A9 z3.length c10]) (new := #[.string r_.key, .slice A9 z3.length c10]) rfl Tryz.sizeOf70 rfl rfl rfl rfl (by kernel_rfl) rfl rfl rfl rfl ?_
    refine WR.nil ?_
    change WC _ _ _ _ _ _
    refine WC.ret ?_
    rw [show Value.slice A9 (z3.length) c10 = Value.slice A9 (x15.length) c10 from by rw [hn18]]
    intro w hw
    have hc51 := ho17.capz
    obtain ⟨Γ47, hw, hl48, hr49⟩ := hw.seal (i := 0) rfl; have hs50 := ho17.sl hl48 hr49
    obtain rfl := Option.some.inj h
    subst hF
    exact ⟨[.agg #[.string r_.key, .slice A9 x15.length c10]], (rr_agg (i := 1) (us := [.string r_.key, .slice A9 x15.length c10]) hw rfl Tryz.isAgg70 Tryz.sizeOf70 (by kernel_rfl) rfl rr_nil), end_e (is := []) (by kernel_rfl) hw rfl ⟨A9, c10, rfl, rfl, ⟨hr_.1, ⟨hc51, hs50⟩⟩, trivial⟩⟩
abbrev r_tree_Tree_Set_l1 (gt_ : Nat) (r : OTree × Int) (U : List Rowb) (Γ : Gh) (v : Value) : Prop := ∃ (rowt_' : Rowb), v = .int .i64 r.2 ∧ U = [rowt_'] ∧ OTree.ob (tg0 123) Γ gt_ rowt_' r.1 ∧ I64 r.2 ∧ True
set_option maxRecDepth 100000 in
set_option maxHeartbeats 400000 in
theorem t_tree_Tree_Set_l1 {Γ : Gh} {w0 : World} {B : Gh} {gt_ : Nat} {rowt_ : Rowb} {t_ : OTree} (ht_ : OTree.ob (tg0 123) Γ gt_ rowt_ t_) {Ar_1 : Option Addr} {cr_1 : Nat} (r_ : Rec) (hr_ : Rec.fits B Ar_1 cr_1 r_) (hp : Pre [rowt_] Γ w0) (hpB : Pre [rowt_] B w0) {r : OTree × Int} (h : m_tree_Tree_Set t_ r_ = some r) : Calls Tryz.prog 66 #[.pointer (some ⟨gt_, 0, none⟩), .agg #[.string r_.key, .slice Ar_1 r_.vers.length cr_1]] w0 (Outc Γ [rowt_] w0 (r_tree_Tree_Set_l1 gt_ r)) := by
  refine calls_of (N := 71) (rs := [4]) (args := [.pointer (some ⟨gt_, 0, none⟩), .agg #[.string r_.key, .slice Ar_1 r_.vers.length cr_1]]) Tryz.func66 rfl Tryz.ntmps66 Tryz.results66 rfl ?_
  obtain ⟨F, hF⟩ : ∃ F : Fm, F = ⟨ids [rowt_], w0, Γ⟩ := ⟨_, rfl⟩
  refine WC.here (C := CC F Γ [rowt_]) ?_ (hF ▸ hp.start)
  have hB : Lent F B := hF ▸ Lent.start hpB
  refine WC.rs ?_
  refine e_box (v := .agg #[.string r_.key, .slice Ar_1 r_.vers.length cr_1]) rfl rfl rfl rfl (by kernel_rfl) ?_
  intro g1
  refine va rfl rfl rfl (q_assign (v := .int .i64 0) rfl (by kernel_rfl)) ?_
  refine WR.nil ?_
  change WC _ _ _ _ _ _
  refine WC.seq ?_
  refine WC.rs ?_
  refine va rfl rfl rfl (q_ldla (i := 0) (vs := [.string r_.key, .slice Ar_1 r_.vers.length cr_1]) rfl rfl Tryz.isAgg70 Tryz.sizeOf70 rfl rfl) ?_
  obtain ⟨z2, hz3, h⟩ := bnd h
  refine vc rfl rfl rfl (q_call (call_run Tryz.call83 rfl rfl (by kernel_rfl)) (fun w hw => t_code_RightRec (Γ := Gh.all w) r_ (Rec.fits_mono hr_ ((fun w hw => hB.sat hw) w hw).le_all) (Sat.all w) hz3)) ?_
  refine va rfl rfl rfl (q_not rfl rfl) ?_
  refine WR.nil ?_
  change WC _ _ _ _ _ _
  refine WC.cif h (by kernel_rfl) (fun hb4 h => ?_) (fun hb4 h => ?_)
  · skip
    refine WC.rs ?_
    refine va rfl rfl rfl (q_assign (v := .int .i64 1) rfl (by kernel_rfl)) ?_
    refine WR.nil ?_
    change WC _ _ _ _ _ _
    refine WC.ret ?_
    intro w hw
    obtain rfl := Option.some.inj h
    subst hF
    exact end_e (is := [1]) (by kernel_rfl) hw rfl ⟨rowt_, rfl, rfl, ht_, (show I64 1 by decide), trivial⟩
  · skip
    refine WC.skip ?_
    change WC _ _ _ _ _ _
    refine WC.rs ?_
    refine va rfl rfl rfl (q_fl 0 fld_70_0 rfl rfl rfl) ?_
    refine va rfl rfl rfl (q_ldl (i := 0) (v := .string r_.key) rfl rfl Tryz.isAgg9 rfl rfl) ?_
    obtain ⟨z5, hz6, h⟩ := bnd h
    refine e_call (is := []) rfl rfl (call_run Tryz.call85 rfl rfl (by kernel_rfl)) rfl (fun w hp => t_tree_Place r_.key hr_.1 hp hz6) ?_
    rintro Γ7 U9 v10 hl8 ⟨A11, c12, row13, rfl, rfl, hr14, _⟩
    change WR _ _ _ (CC F Γ7 [row13, [(g1, .cells #[.string r_.key, .slice Ar_1 r_.vers.length cr_1] 70 (0, 0))], rowt_]) _ _ (upd _ 12 (.slice A11 z5.length c12))
    refine va rfl rfl rfl (q_assign (v := .slice A11 z5.length c12) rfl (by kernel_rfl)) ?_
    refine WR.nil ?_
    change WC _ _ _ _ _ _
    refine WC.seq ?_
    refine WC.dr (by kernel_rfl) (by kernel_rfl) (fun w hw => hw.drawn _) ?_
    refine wa rfl rfl rfl (q_move (v := .pointer (some ⟨gt_, 0, none⟩)) rfl (by kernel_rfl)) ?_
    refine wa rfl rfl rfl (q_move (v := .slice A11 z5.length c12) rfl (by kernel_rfl)) ?_
    obtain ⟨hk15, h⟩ := chk_some h
    refine wa rfl rfl rfl (q_ixn (i := 0) Tryz.underlying24 Tryz.sizeOf3 rfl rfl rfl (of_decide_eq_true hk15) (hr14.some_ (of_decide_eq_true hk15))) ?_
    refine wa rfl rfl rfl (q_ldo (c := 0) (v := .int .i64 (gt z5 0)) (i := 0) rfl (hr14.intT_at (of_decide_eq_true hk15)).2 rfl Tryz.isAgg3 rfl rfl) ?_
    refine wa rfl rfl rfl (q_move (v := .slice A11 z5.length c12) rfl (by kernel_rfl)) ?_
    obtain ⟨hk16, h⟩ := chk_some h
    refine wa rfl rfl rfl (q_ixn (i := 1) Tryz.underlying24 Tryz.sizeOf3 rfl rfl rfl (of_decide_eq_true hk16) (hr14.some_ (of_decide_eq_true hk16))) ?_
    refine wa rfl rfl rfl (q_ldo (c := 0) (v := .int .i64 (gt z5 1)) (i := 0) rfl (hr14.intT_at (of_decide_eq_true hk16)).2 rfl Tryz.isAgg3 rfl rfl) ?_
    refine wa rfl rfl rfl (q_nil (A := some ⟨gt_, 0, none⟩) rfl rfl rfl) ?_
    refine wa rfl rfl rfl (q_fl 0 fld_123_0 rfl rfl rfl) ?_
    obtain ⟨hk17, h⟩ := chk_some h
    refine wa rfl rfl rfl (q_ixd (i := (gt z5 0).toNat) Tryz.underlying121 Tryz.sizeOf120 rfl rfl (inle_eq rfl (inb_le hk17)) (inb_lt hk17)) ?_
    obtain ⟨hk18, h⟩ := chk_some h
    refine wa rfl rfl rfl (q_ixd (i := (gt z5 1).toNat) Tryz.underlying120 Tryz.sizeOf119 rfl rfl (inle_eq rfl (inb_le hk18)) (inb_lt hk18)) ?_
    refine wa rfl rfl rfl (q_assign (v := .pointer (some ⟨gt_, 0 + ((gt z5 0).toNat) * 16 + ((gt z5 1).toNat) * 1, none⟩)) rfl (by kernel_rfl)) ?_
    refine WQ.nil ?_
    change WC _ _ _ _ _ _
    refine WC.cut (fun σ w => ∃ (o19 : OTree), ∃ (row20 : Rowb), m_tree_Tree_Set_j1 r_ z5 o19 = some r ∧ slots σ [(0, .pointer (some ⟨gt_, 0, none⟩)), (3, .pointer (some ⟨g1, 0, none⟩)), (5, .slice A11 z5.length c12), (6, .pointer (some ⟨gt_, 0 + ((gt z5 0).toNat) * 16 + ((gt z5 1).toNat) * 1, none⟩))] ∧ CC F Γ7 [row13, [(g1, .cells #[.string r_.key, .slice Ar_1 r_.vers.length cr_1] 70 (0, 0))], row20] w ∧ OTree.ob (tg0 123) Γ7 gt_ row20 o19 ∧ True) ?_ ?_
    · skip
      refine WC.rs ?_
      refine va rfl rfl rfl (q_move (v := .pointer (some ⟨gt_, 0 + ((gt z5 0).toNat) * 16 + ((gt z5 1).toNat) * 1, none⟩)) rfl (by kernel_rfl)) ?_
      refine va rfl rfl rfl (q_nil (A := some ⟨gt_, 0 + ((gt z5 0).toNat) * 16 + ((gt z5 1).toNat) * 1, none⟩) rfl rfl rfl) ?_
      have hq := (ht_.mono hl8)
      obtain ⟨cs_22, rL_22, sm_22, rS_22, hrow_22, hM_22, hl_22, hS_22, -⟩ := hq
      obtain ⟨rA_23, r_23, rB_23, hrl_23, hO_23, hcl_23⟩ := hM_22.at_ (i := 0 + ((gt z5 0).toNat) * 16 + ((gt z5 1).toNat) * 1) (by rw [hl_22]; exact (leaf_lt (inb_lt hk17) (inb_lt hk18)))
      have hrw_23 : rowt_ = ([[(gt_, .cells (cs_22 ++ [Value.map (some sm_22)]).toArray (tg0 123).1 (0, 0))], rA_23, r_23, rB_23, rS_22] : List Rowb).flatten := by rw [hrow_22, hrl_23]; simp only [List.flatten_cons, List.flatten_nil, List.append_nil, List.append_assoc]
      intro w hw; have hw := hw.unfold (i := 2) rfl hrw_23
      refine WR.here (C := CC F Γ7 [[(gt_, .cells (cs_22 ++ [Value.map (some sm_22)]).toArray (tg0 123).1 (0, 0))], rA_23, r_23, rB_23, rS_22, row13, [(g1, .cells #[.string r_.key, .slice Ar_1 r_.vers.length cr_1] 70 (0, 0))]]) ?_ hw
      clear hw
      refine va rfl rfl rfl (q_ldA (i := 0) (cs := cs_22) rfl (by rw [(hM_22.len.trans hl_22)]; exact (leaf_lt (inb_lt hk17) (inb_lt hk18))) rfl Tryz.isAgg119 rfl) ?_
      refine va rfl rfl rfl (q_omap_nil hO_23 Tryz.underlying119 rfl rfl rfl) ?_
      refine WR.nil ?_
      change WC _ _ _ _ _ _
      refine WC.cif h (by kernel_rfl) (fun hb24 h => ?_) (fun hb24 h => ?_)
      · skip
        refine WC.region ?_
        refine va rfl rfl rfl (q_move (v := .pointer (some ⟨gt_, 0 + ((gt z5 0).toNat) * 16 + ((gt z5 1).toNat) * 1, none⟩)) rfl (by kernel_rfl)) ?_
        refine e_makeMap (strK Tryz.underlying9) recT.ag rfl rfl rfl rfl ?_
        intro g25 row26 hm27
        refine va rfl rfl rfl (q_nil (A := some ⟨gt_, 0 + ((gt z5 0).toNat) * 16 + ((gt z5 1).toNat) * 1, none⟩) rfl rfl rfl) ?_
        refine e_stA (i := 1) (cs := cs_22) (j := 0 + ((gt z5 0).toNat) * 16 + ((gt z5 1).toNat) * 1) (v := .map (some g25)) rfl (by rw [(hM_22.len.trans hl_22)]; exact (leaf_lt (inb_lt hk17) (inb_lt hk18))) Tryz.sizeOf119 rfl rfl rfl rfl (by kernel_rfl) rfl rfl ?_
        refine WR.nil ?_
        intro w hw
        obtain ⟨row_28, hrow_28, hob_28⟩ : ∃ rw : Rowb, rw = ([[(gt_, .cells ((List.set cs_22 (0 + ((gt z5 0).toNat) * 16 + ((gt z5 1).toNat) * 1) (.map (some g25))) ++ [Value.map (some sm_22)]).toArray (tg0 123).1 (0, 0))], rA_23, row26, rB_23, rS_22] : List Rowb).flatten ∧ OTree.ob (tg0 123) Γ7 gt_ rw (⟨(List.set t_.leaves (0 + ((gt z5 0).toNat) * 16 + ((gt z5 1).toNat) * 1) (some ([] : List (ByteArray × Rec)))), t_.sums⟩ : OTree) := ⟨_, rfl, (List.set cs_22 (0 + ((gt z5 0).toNat) * 16 + ((gt z5 1).toNat) * 1) (.map (some g25))), (rA_23 ++ (row26 ++ rB_23)), sm_22, rS_22, (by simp only [List.flatten_cons, List.flatten_nil, List.append_nil, List.append_assoc]), (hcl_23 _ (.map (some g25)) row26 (some ([] : List (ByteArray × Rec))) (Gh.refl _) ⟨g25, rfl, hm27⟩), (List.length_set.trans hl_22), hS_22, trivial⟩
        have hw := hw.fold (is := [1, 1, 0, 1, 1]) rfl hrow_28
        exact ⟨(⟨(List.set t_.leaves (0 + ((gt z5 0).toNat) * 16 + ((gt z5 1).toNat) * 1) (some ([] : List (ByteArray × Rec)))), t_.sums⟩ : OTree), row_28, h, (sl_ (by kernel_rfl)), (hw.only (is := [2, 2, 0]) rfl), hob_28, trivial⟩
      · skip
        refine WC.skip ?_
        intro w hw
        have hw := hw.fold (is := [0, 0, 0, 0, 0]) rfl hrw_23
        exact ⟨t_, rowt_, h, (sl_ (by kernel_rfl)), (hw.only (is := [1, 1, 0]) rfl), (ht_.mono hl8), trivial⟩
    · skip
      rintro σ w ⟨o19, row20, h, hsl, hw, ho21, -⟩
      refine Wpt.slots hsl ?_
      refine WC.here (C := CC F Γ7 [row13, [(g1, .cells #[.string r_.key, .slice Ar_1 r_.vers.length cr_1] 70 (0, 0))], row20]) ?_ hw
      clear hw hsl
      refine WC.seq ?_
      have hq := ho21
      obtain ⟨cs_30, rL_30, sm_30, rS_30, hrow_30, hM_30, hl_30, hS_30, -⟩ := hq
      obtain ⟨rA_31, r_31, rB_31, hrl_31, hO_31, hcl_31⟩ := hM_30.at_ (i := 0 + ((gt z5 0).toNat) * 16 + ((gt z5 1).toNat) * 1) (by rw [hl_30]; exact (leaf_lt (inb_lt hk17) (inb_lt hk18)))
      have hrw_31 : row20 = ([[(gt_, .cells (cs_30 ++ [Value.map (some sm_30)]).toArray (tg0 123).1 (0, 0))], rA_31, r_31, rB_31, rS_30] : List Rowb).flatten := by rw [hrow_30, hrl_31]; simp only [List.flatten_cons, List.flatten_nil, List.append_nil, List.append_assoc]
      intro w hw; have hw := hw.unfold (i := 2) rfl hrw_31
      refine WC.here (C := CC F Γ7 [[(gt_, .cells (cs_30 ++ [Value.map (some sm_30)]).toArray (tg0 123).1 (0, 0))], rA_31, r_31, rB_31, rS_30, row13, [(g1, .cells #[.string r_.key, .slice Ar_1 r_.vers.length cr_1] 70 (0, 0))]]) ?_ hw
      clear hw
      obtain ⟨es32, hes33, h⟩ := bnd h
      obtain ⟨m34, hc35, hm36⟩ : ∃ m, cgt cs_30 (0 + ((gt z5 0).toNat) * 16 + ((gt z5 1).toNat) * 1) = Value.map (some m) ∧ MapO (strK Tryz.underlying9) recT.ag Γ7 r_31 m es32 := (by have h9 := hO_31; rw [hes33] at h9; exact h9)
      intro w hw; have h037 := hw.le
      refine WC.here (C := CC F Γ7 [[(gt_, .cells (cs_30 ++ [Value.map (some sm_30)]).toArray (tg0 123).1 (0, 0))], rA_31, r_31, rB_31, rS_30, row13, [(g1, .cells #[.string r_.key, .slice Ar_1 r_.vers.length cr_1] 70 (0, 0))]]) ?_ hw; clear hw
      refine WC.held (CC F Γ7 [[(gt_, .cells (cs_30 ++ [Value.map (some sm_30)]).toArray (tg0 123).1 (0, 0))], rA_31, rB_31, row13, [(g1, .cells #[.string r_.key, .slice Ar_1 r_.vers.length cr_1] 70 (0, 0))]]) (by kernel_rfl) (fun w hw => hw.drawn _) ?_
      change WH _ _ _ _ (CC F Γ7 [[(gt_, .cells (cs_30 ++ [Value.map (some sm_30)]).toArray (tg0 123).1 (0, 0))], rA_31, r_31, rB_31, rS_30, row13, [(g1, .cells #[.string r_.key, .slice Ar_1 r_.vers.length cr_1] 70 (0, 0))]]) _ 6 #[false, false, false, false, false, false] _
      refine ht (i := 0) rfl (by kernel_rfl) rfl rfl rfl (fun w hw => hw.back (Gh.refl _) h037 (.cons_cons _ (.cons_cons _ (.cons _ (.cons_cons _ (.cons _ (.cons_cons _ (.cons_cons _ .slnil)))))))) (q_move (v := .pointer (some ⟨gt_, 0 + ((gt z5 0).toNat) * 16 + ((gt z5 1).toNat) * 1, none⟩)) rfl (by kernel_rfl)) ?_
      refine ht (i := 1) rfl (by kernel_rfl) rfl rfl rfl (fun w hw => hw.back (Gh.refl _) h037 (.cons_cons _ (.cons_cons _ (.cons _ (.cons_cons _ (.cons _ (.cons_cons _ (.cons_cons _ .slnil)))))))) (q_nil (A := some ⟨gt_, 0 + ((gt z5 0).toNat) * 16 + ((gt z5 1).toNat) * 1, none⟩) rfl rfl rfl) ?_
      refine ht (i := 2) rfl (by kernel_rfl) rfl rfl rfl (fun w hw => hw.back (Gh.refl _) h037 (.cons_cons _ (.cons_cons _ (.cons _ (.cons_cons _ (.cons _ (.cons_cons _ (.cons_cons _ .slnil)))))))) (q_ldA (i := 0) (cs := cs_30) rfl (by rw [(hM_30.len.trans hl_30)]; exact (leaf_lt (inb_lt hk17) (inb_lt hk18))) rfl Tryz.isAgg119 rfl) ?_
      refine ht (i := 3) rfl (by kernel_rfl) rfl rfl rfl (fun w hw => hw.back (Gh.refl _) h037 (.cons_cons _ (.cons_cons _ (.cons _ (.cons_cons _ (.cons _ (.cons_cons _ (.cons_cons _ .slnil)))))))) (q_fl 0 fld_70_0 rfl rfl rfl) ?_
      refine ht (i := 4) rfl (by kernel_rfl) rfl rfl rfl (fun w hw => hw.back (Gh.refl _) h037 (.cons_cons _ (.cons_cons _ (.cons _ (.cons_cons _ (.cons _ (.cons_cons _ (.cons_cons _ .slnil)))))))) (q_ldl (i := 4) (v := .string r_.key) rfl rfl Tryz.isAgg9 rfl rfl) ?_
      refine WH.lone (i := 5) (by kernel_rfl) rfl ?_
      refine e_delete (i := 2) (x := r_.key) rfl hm36 rfl rfl rfl Tryz.underlying119 (Eq.trans (b := cgt cs_30 (0 + ((gt z5 0).toNat) * 16 + ((gt z5 1).toNat) * 1)) rfl hc35) rfl ?_
      intro row38 hm39
      refine WR.nil ?_
      refine WH.next (fun w hw => hw.back (Gh.refl _) h037 (.cons_cons _ (.cons_cons _ (.cons _ (.cons_cons _ (.cons _ (.cons_cons _ (.cons_cons _ .slnil)))))))) ?_
      refine WH.done (by kernel_rfl) ?_
      change WC _ _ _ _ _ _
      obtain ⟨row_40, hrow_40, hob_40⟩ : ∃ rw : Rowb, rw = ([[(gt_, .cells (cs_30 ++ [Value.map (some sm_30)]).toArray (tg0 123).1 (0, 0))], rA_31, row38, rB_31, rS_30] : List Rowb).flatten ∧ OTree.ob (tg0 123) Γ7 gt_ rw (⟨(List.set o19.leaves (0 + ((gt z5 0).toNat) * 16 + ((gt z5 1).toNat) * 1) (some (mdel r_.key es32))), o19.sums⟩ : OTree) := ⟨_, rfl, cs_30, (rA_31 ++ (row38 ++ rB_31)), sm_30, rS_30, (by simp only [List.flatten_cons, List.flatten_nil, List.append_nil, List.append_assoc]), (by have h9 := hcl_31 _ (.map (some m34)) row38 (some (mdel r_.key es32)) (Gh.refl _) ⟨m34, rfl, hm39⟩; rw [set_cgt hc35] at h9; exact h9), (List.length_set.trans hl_30), hS_30, trivial⟩
      intro w hw; have hw := hw.fold (is := [0, 0, 0, 0, 0]) rfl hrow_40
      refine WC.here (C := CC F Γ7 [row_40, row13, [(g1, .cells #[.string r_.key, .slice Ar_1 r_.vers.length cr_1] 70 (0, 0))]]) ?_ hw
      clear hw
      refine WC.cut (fun σ w => ∃ (o43 : OTree), ∃ (Γ41 : Gh), ∃ (row44 : Rowb), m_tree_Tree_Set_j2 z5 o43 = some r ∧ slots σ [(0, .pointer (some ⟨gt_, 0, none⟩)), (5, .slice A11 z5.length c12)] ∧ CC F Γ41 [row44, row13] w ∧ Gh.le Γ7 Γ41 ∧ OTree.ob (tg0 123) Γ41 gt_ row44 o43 ∧ True) ?_ ?_
      · skip
        refine WC.rs ?_
        refine va rfl rfl rfl (q_fl 1 fld_70_1 rfl rfl rfl) ?_
        refine va rfl rfl rfl (q_ldl (i := 2) (v := .slice Ar_1 r_.vers.length cr_1) rfl rfl Tryz.isAgg67 rfl rfl) ?_
        refine va rfl rfl rfl (q_len_slice rfl Tryz.underlying67 rfl) ?_
        refine va rfl rfl rfl (q_gtr rfl rfl rfl) ?_
        refine WR.nil ?_
        change WC _ _ _ _ _ _
        refine WC.cif h (by kernel_rfl) (fun hb46 h => ?_) (fun hb46 h => ?_)
        · skip
          have hq := hob_40
          obtain ⟨cs_47, rL_47, sm_47, rS_47, hrow_47, hM_47, hl_47, hS_47, -⟩ := hq
          obtain ⟨rA_48, r_48, rB_48, hrl_48, hO_48, hcl_48⟩ := hM_47.at_ (i := 0 + ((gt z5 0).toNat) * 16 + ((gt z5 1).toNat) * 1) (by rw [hl_47]; exact (leaf_lt (inb_lt hk17) (inb_lt hk18)))
          have hrw_48 : row_40 = ([[(gt_, .cells (cs_47 ++ [Value.map (some sm_47)]).toArray (tg0 123).1 (0, 0))], rA_48, r_48, rB_48, rS_47] : List Rowb).flatten := by rw [hrow_47, hrl_48]; simp only [List.flatten_cons, List.flatten_nil, List.append_nil, List.append_assoc]
          intro w hw; have hw := hw.unfold (i := 0) rfl hrw_48
          refine WC.here (C := CC F Γ7 [[(gt_, .cells (cs_47 ++ [Value.map (some sm_47)]).toArray (tg0 123).1 (0, 0))], rA_48, r_48, rB_48, rS_47, row13, [(g1, .cells #[.string r_.key, .slice Ar_1 r_.vers.length cr_1] 70 (0, 0))]]) ?_ hw
          clear hw
          obtain ⟨es49, hes50, h⟩ := bnd h
          obtain ⟨m51, hc52, hm53⟩ : ∃ m, cgt cs_47 (0 + ((gt z5 0).toNat) * 16 + ((gt z5 1).toNat) * 1) = Value.map (some m) ∧ MapO (strK Tryz.underlying9) recT.ag Γ7 r_48 m es49 := (by have h9 := hO_48; rw [hes50] at h9; exact h9)
          intro w hw; have h054 := hw.le
          refine WC.here (C := CC F Γ7 [[(gt_, .cells (cs_47 ++ [Value.map (some sm_47)]).toArray (tg0 123).1 (0, 0))], rA_48, r_48, rB_48, rS_47, row13, [(g1, .cells #[.string r_.key, .slice Ar_1 r_.vers.length cr_1] 70 (0, 0))]]) ?_ hw; clear hw
          refine WC.held (CC F Γ7 [[(gt_, .cells (cs_47 ++ [Value.map (some sm_47)]).toArray (tg0 123).1 (0, 0))], rA_48, rB_48, row13, [(g1, .cells #[.string r_.key, .slice Ar_1 r_.vers.length cr_1] 70 (0, 0))]]) (by kernel_rfl) (fun w hw => hw.drawn _) ?_
          change WH _ _ _ _ (CC F Γ7 [[(gt_, .cells (cs_47 ++ [Value.map (some sm_47)]).toArray (tg0 123).1 (0, 0))], rA_48, r_48, rB_48, rS_47, row13, [(g1, .cells #[.string r_.key, .slice Ar_1 r_.vers.length cr_1] 70 (0, 0))]]) _ 8 #[false, false, false, false, false, false, false, false] _
          refine ht (i := 0) rfl (by kernel_rfl) rfl rfl rfl (fun w hw => hw.back (Gh.refl _) h054 (.cons_cons _ (.cons_cons _ (.cons _ (.cons_cons _ (.cons _ (.cons_cons _ (.cons_cons _ .slnil)))))))) (q_move (v := .pointer (some ⟨gt_, 0 + ((gt z5 0).toNat) * 16 + ((gt z5 1).toNat) * 1, none⟩)) rfl (by kernel_rfl)) ?_
          refine ht (i := 1) rfl (by kernel_rfl) rfl rfl rfl (fun w hw => hw.back (Gh.refl _) h054 (.cons_cons _ (.cons_cons _ (.cons _ (.cons_cons _ (.cons _ (.cons_cons _ (.cons_cons _ .slnil)))))))) (q_nil (A := some ⟨gt_, 0 + ((gt z5 0).toNat) * 16 + ((gt z5 1).toNat) * 1, none⟩) rfl rfl rfl) ?_
          refine ht (i := 2) rfl (by kernel_rfl) rfl rfl rfl (fun w hw => hw.back (Gh.refl _) h054 (.cons_cons _ (.cons_cons _ (.cons _ (.cons_cons _ (.cons _ (.cons_cons _ (.cons_cons _ .slnil)))))))) (q_ldA (i := 0) (cs := cs_47) rfl (by rw [(hM_47.len.trans hl_47)]; exact (leaf_lt (inb_lt hk17) (inb_lt hk18))) rfl Tryz.isAgg119 rfl) ?_
          refine ht (i := 3) rfl (by kernel_rfl) rfl rfl rfl (fun w hw => hw.back (Gh.refl _) h054 (.cons_cons _ (.cons_cons _ (.cons _ (.cons_cons _ (.cons _ (.cons_cons _ (.cons_cons _ .slnil)))))))) (q_fl 0 fld_70_0 rfl rfl rfl) ?_
          refine ht (i := 4) rfl (by kernel_rfl) rfl rfl rfl (fun w hw => hw.back (Gh.refl _) h054 (.cons_cons _ (.cons_cons _ (.cons _ (.cons_cons _ (.cons _ (.cons_cons _ (.cons_cons _ .slnil)))))))) (q_ldl (i := 4) (v := .string r_.key) rfl rfl Tryz.isAgg9 rfl rfl) ?_
          refine ht (i := 5) rfl (by kernel_rfl) rfl rfl rfl (fun w hw => hw.back (Gh.refl _) h054 (.cons_cons _ (.cons_cons _ (.cons _ (.cons_cons _ (.cons _ (.cons_cons _ (.cons_cons _ .slnil)))))))) (q_ldla (i := 4) (vs := [.string r_.key, .slice Ar_1 r_.vers.length cr_1]) rfl rfl Tryz.isAgg70 Tryz.sizeOf70 rfl rfl) ?_
          refine WH.lone (i := 6) (by kernel_rfl) rfl ?_
          obtain ⟨z55, hz56, h⟩ := bnd h
          refine e_callB (is := []) hB rfl rfl (call_run Tryz.call79 rfl rfl (by kernel_rfl)) rfl (fun w Θ hp hpB hle hleB hR => t_tree_own_x r_ (Rec.fits_mono hr_ hleB) hp hpB hz56) ?_
          rintro Γ57 U59 v60 hl58 ⟨A61, c62, rfl, rfl, hr63, _⟩
          change WR _ _ _ (CC F Γ57 [[(gt_, .cells (cs_47 ++ [Value.map (some sm_47)]).toArray (tg0 123).1 (0, 0))], rA_48, r_48, rB_48, rS_47, row13, [(g1, .cells #[.string r_.key, .slice Ar_1 r_.vers.length cr_1] 70 (0, 0))]]) _ _ (upd _ 46 (.agg #[.string z55.key, .slice A61 z55.vers.length c62]))
          refine WR.nil ?_
          refine WH.next (fun w hw => hw.back hl58 h054 (.cons_cons _ (.cons_cons _ (.cons _ (.cons_cons _ (.cons _ (.cons_cons _ (.cons_cons _ .slnil)))))))) ?_
          refine WH.lone (i := 7) (by kernel_rfl) rfl ?_
          refine e_mapUpdate (i := 2) (x := r_.key) (v := .agg #[.string z55.key, .slice A61 z55.vers.length c62]) (a := z55) rfl rfl rfl Tryz.underlying119 (Eq.trans (b := cgt cs_47 (0 + ((gt z5 0).toNat) * 16 + ((gt z5 1).toNat) * 1)) rfl hc52) rfl (by kernel_rfl) rfl (hm53.mono hl58) (by exact ⟨_, rfl, ⟨A61, c62, rfl, hr63⟩⟩) hr_.1 ?_
          intro row64 hm65
          refine WR.nil ?_
          refine WH.next (fun w hw => hw.back hl58 h054 (.cons_cons _ (.cons_cons _ (.cons _ (.cons_cons _ (.cons _ (.cons_cons _ (.cons_cons _ .slnil)))))))) ?_
          refine WH.done (by kernel_rfl) ?_
          intro w hw
          obtain ⟨row_66, hrow_66, hob_66⟩ : ∃ rw : Rowb, rw = ([[(gt_, .cells (cs_47 ++ [Value.map (some sm_47)]).toArray (tg0 123).1 (0, 0))], rA_48, row64, rB_48, rS_47] : List Rowb).flatten ∧ OTree.ob (tg0 123) Γ57 gt_ rw (⟨(List.set (⟨(List.set o19.leaves (0 + ((gt z5 0).toNat) * 16 + ((gt z5 1).toNat) * 1) (some (mdel r_.key es32))), o19.sums⟩ : OTree).leaves (0 + ((gt z5 0).toNat) * 16 + ((gt z5 1).toNat) * 1) (some (mput r_.key z55 es49))), (⟨(List.set o19.leaves (0 + ((gt z5 0).toNat) * 16 + ((gt z5 1).toNat) * 1) (some (mdel r_.key es32))), o19.sums⟩ : OTree).sums⟩ : OTree) := ⟨_, rfl, cs_47, (rA_48 ++ (row64 ++ rB_48)), sm_47, rS_47, (by simp only [List.flatten_cons, List.flatten_nil, List.append_nil, List.append_assoc]), (by have h9 := hcl_48 _ (.map (some m51)) row64 (some (mput r_.key z55 es49)) hl58 ⟨m51, rfl, hm65⟩; rw [set_cgt hc52] at h9; exact h9), (List.length_set.trans hl_47), (hS_47.mono hl58), trivial⟩
          have hw := hw.fold (is := [0, 0, 0, 0, 0]) rfl hrow_66
          exact ⟨(⟨(List.set (⟨(List.set o19.leaves (0 + ((gt z5 0).toNat) * 16 + ((gt z5 1).toNat) * 1) (some (mdel r_.key es32))), o19.sums⟩ : OTree).leaves (0 + ((gt z5 0).toNat) * 16 + ((gt z5 1).toNat) * 1) (some (mput r_.key z55 es49))), (⟨(List.set o19.leaves (0 + ((gt z5 0).toNat) * 16 + ((gt z5 1).toNat) * 1) (some (mdel r_.key es32))), o19.sums⟩ : OTree).sums⟩ : OTree), Γ57, row_66, h, (sl_ (by kernel_rfl)), (hw.only (is := [0, 0]) rfl), hl58, hob_66, trivial⟩
        · skip
          refine WC.skip ?_
          intro w hw
          exact ⟨(⟨(List.set o19.leaves (0 + ((gt z5 0).toNat) * 16 + ((gt z5 1).toNat) * 1) (some (mdel r_.key es32))), o19.sums⟩ : OTree), Γ7, row_40, h, (sl_ (by kernel_rfl)), (hw.only (is := [0, 0]) rfl), (Gh.refl _), hob_40, trivial⟩
      · skip
        rintro σ w ⟨o43, Γ41, row44, h, hsl, hw, hl42, ho45, -⟩
        refine Wpt.slots hsl ?_
        refine WC.here (C := CC F Γ41 [row44, row13]) ?_ hw
        clear hw hsl
        refine WC.rs ?_
        refine va rfl rfl rfl (q_move (v := .pointer (some ⟨gt_, 0, none⟩)) rfl (by kernel_rfl)) ?_
        refine va rfl rfl rfl (q_nil (A := some ⟨gt_, 0, none⟩) rfl rfl rfl) ?_
        refine va rfl rfl rfl (q_fl 256 fld_123_1 rfl rfl rfl) ?_
        have hq := ho45
        obtain ⟨cs_67, rL_67, sm_67, rS_67, hrow_67, hM_67, hl_67, hS_67, -⟩ := hq
        intro w hw; have hw := hw.unfold (i := 0) rfl hrow_67
        refine WR.here (C := CC F Γ41 [[(gt_, .cells (cs_67 ++ [Value.map (some sm_67)]).toArray (tg0 123).1 (0, 0))], rL_67, rS_67, row13]) ?_ hw
        clear hw
        refine va rfl rfl rfl (q_ldAe (i := 0) (cs := cs_67) rfl (hM_67.len.trans hl_67) rfl Tryz.isAgg118 rfl) ?_
        refine va rfl rfl rfl (q_build' (v := .agg #[.int .i64 0, .int .i64 0, .int .i64 0]) rfl (bargs3 rfl rfl rfl) (fun w => by kernel_rfl)) ?_
        refine e_sdelete (i := 2) (x := (0, 0, 0)) rfl hS_67 rfl rfl rfl Tryz.underlying118 rfl rfl ?_
        intro row68 hm69
        refine WR.nil ?_
        change WC _ _ _ _ _ _
        refine WC.seq ?_
        intro w hw; have h070 := hw.le
        refine WC.here (C := CC F Γ41 [[(gt_, .cells (cs_67 ++ [Value.map (some sm_67)]).toArray (tg0 123).1 (0, 0))], rL_67, row68, row13]) ?_ hw; clear hw
        refine WC.held (CC F Γ41 [[(gt_, .cells (cs_67 ++ [Value.map (some sm_67)]).toArray (tg0 123).1 (0, 0))], rL_67, row13]) (by kernel_rfl) (fun w hw => hw.drawn _) ?_
        change WH _ _ _ _ (CC F Γ41 [[(gt_, .cells (cs_67 ++ [Value.map (some sm_67)]).toArray (tg0 123).1 (0, 0))], rL_67, row68, row13]) _ 9 #[false, false, false, false, false, false, false, false, false] _
        refine ht (i := 0) rfl (by kernel_rfl) rfl rfl rfl (fun w hw => hw.back (Gh.refl _) h070 (.cons_cons _ (.cons_cons _ (.cons _ (.cons_cons _ .slnil))))) (q_move (v := .pointer (some ⟨gt_, 0, none⟩)) rfl (by kernel_rfl)) ?_
        refine ht (i := 1) rfl (by kernel_rfl) rfl rfl rfl (fun w hw => hw.back (Gh.refl _) h070 (.cons_cons _ (.cons_cons _ (.cons _ (.cons_cons _ .slnil))))) (q_nil (A := some ⟨gt_, 0, none⟩) rfl rfl rfl) ?_
        refine ht (i := 2) rfl (by kernel_rfl) rfl rfl rfl (fun w hw => hw.back (Gh.refl _) h070 (.cons_cons _ (.cons_cons _ (.cons _ (.cons_cons _ .slnil))))) (q_fl 256 fld_123_1 rfl rfl rfl) ?_
        refine ht (i := 3) rfl (by kernel_rfl) rfl rfl rfl (fun w hw => hw.back (Gh.refl _) h070 (.cons_cons _ (.cons_cons _ (.cons _ (.cons_cons _ .slnil))))) (q_ldAe (i := 0) (cs := cs_67) rfl (hM_67.len.trans hl_67) rfl Tryz.isAgg118 rfl) ?_
        refine ht (i := 4) rfl (by kernel_rfl) rfl rfl rfl (fun w hw => hw.back (Gh.refl _) h070 (.cons_cons _ (.cons_cons _ (.cons _ (.cons_cons _ .slnil))))) (q_move (v := .slice A11 z5.length c12) rfl (by kernel_rfl)) ?_
        refine ht (i := 5) rfl (by kernel_rfl) rfl rfl rfl (fun w hw => hw.back (Gh.refl _) h070 (.cons_cons _ (.cons_cons _ (.cons _ (.cons_cons _ .slnil))))) (q_ixn (i := 0) Tryz.underlying24 Tryz.sizeOf3 rfl rfl rfl (of_decide_eq_true hk15) ((hr14.mono hl42).some_ (of_decide_eq_true hk15))) ?_
        refine ht (i := 6) rfl (by kernel_rfl) rfl rfl rfl (fun w hw => hw.back (Gh.refl _) h070 (.cons_cons _ (.cons_cons _ (.cons _ (.cons_cons _ .slnil))))) (q_ldo (c := 0) (v := .int .i64 (gt z5 0)) (i := 2) rfl ((hr14.mono hl42).intT_at (of_decide_eq_true hk15)).2 rfl Tryz.isAgg3 rfl rfl) ?_
        refine ht (i := 7) rfl (by kernel_rfl) rfl rfl rfl (fun w hw => hw.back (Gh.refl _) h070 (.cons_cons _ (.cons_cons _ (.cons _ (.cons_cons _ .slnil))))) (q_build' (v := .agg #[.int .i64 1, .int .i64 (gt z5 0), .int .i64 0]) rfl (bargs3 rfl rfl rfl) (fun w => by kernel_rfl)) ?_
        refine WH.lone (i := 8) (by kernel_rfl) rfl ?_
        refine e_sdelete (i := 2) (x := (1, (gt z5 0), 0)) rfl hm69 rfl rfl rfl Tryz.underlying118 rfl rfl ?_
        intro row71 hm72
        refine WR.nil ?_
        refine WH.next (fun w hw => hw.back (Gh.refl _) h070 (.cons_cons _ (.cons_cons _ (.cons _ (.cons_cons _ .slnil))))) ?_
        refine WH.done (by kernel_rfl) ?_
        change WC _ _ _ _ _ _
        refine WC.seq ?_
        intro w hw; have h073 := hw.le
        refine WC.here (C := CC F Γ41 [[(gt_, .cells (cs_67 ++ [Value.map (some sm_67)]).toArray (tg0 123).1 (0, 0))], rL_67, row71, row13]) ?_ hw; clear hw
        refine WC.held (CC F Γ41 [[(gt_, .cells (cs_67 ++ [Value.map (some sm_67)]).toArray (tg0 123).1 (0, 0))], rL_67, row13]) (by kernel_rfl) (fun w hw => hw.drawn _) ?_
        change WH _ _ _ _ (CC F Γ41 [[(gt_, .cells (cs_67 ++ [Value.map (some sm_67)]).toArray (tg0 123).1 (0, 0))], rL_67, row71, row13]) _ 12 #[false, false, false, false, false, false, false, false, false, false, false, false] _
        refine ht (i := 0) rfl (by kernel_rfl) rfl rfl rfl (fun w hw => hw.back (Gh.refl _) h073 (.cons_cons _ (.cons_cons _ (.cons _ (.cons_cons _ .slnil))))) (q_move (v := .pointer (some ⟨gt_, 0, none⟩)) rfl (by kernel_rfl)) ?_
        refine ht (i := 1) rfl (by kernel_rfl) rfl rfl rfl (fun w hw => hw.back (Gh.refl _) h073 (.cons_cons _ (.cons_cons _ (.cons _ (.cons_cons _ .slnil))))) (q_nil (A := some ⟨gt_, 0, none⟩) rfl rfl rfl) ?_
        refine ht (i := 2) rfl (by kernel_rfl) rfl rfl rfl (fun w hw => hw.back (Gh.refl _) h073 (.cons_cons _ (.cons_cons _ (.cons _ (.cons_cons _ .slnil))))) (q_fl 256 fld_123_1 rfl rfl rfl) ?_
        refine ht (i := 3) rfl (by kernel_rfl) rfl rfl rfl (fun w hw => hw.back (Gh.refl _) h073 (.cons_cons _ (.cons_cons _ (.cons _ (.cons_cons _ .slnil))))) (q_ldAe (i := 0) (cs := cs_67) rfl (hM_67.len.trans hl_67) rfl Tryz.isAgg118 rfl) ?_
        refine ht (i := 4) rfl (by kernel_rfl) rfl rfl rfl (fun w hw => hw.back (Gh.refl _) h073 (.cons_cons _ (.cons_cons _ (.cons _ (.cons_cons _ .slnil))))) (q_move (v := .slice A11 z5.length c12) rfl (by kernel_rfl)) ?_
        refine ht (i := 5) rfl (by kernel_rfl) rfl rfl rfl (fun w hw => hw.back (Gh.refl _) h073 (.cons_cons _ (.cons_cons _ (.cons _ (.cons_cons _ .slnil))))) (q_ixn (i := 0) Tryz.underlying24 Tryz.sizeOf3 rfl rfl rfl (of_decide_eq_true hk15) ((hr14.mono hl42).some_ (of_decide_eq_true hk15))) ?_
        refine ht (i := 6) rfl (by kernel_rfl) rfl rfl rfl (fun w hw => hw.back (Gh.refl _) h073 (.cons_cons _ (.cons_cons _ (.cons _ (.cons_cons _ .slnil))))) (q_ldo (c := 0) (v := .int .i64 (gt z5 0)) (i := 2) rfl ((hr14.mono hl42).intT_at (of_decide_eq_true hk15)).2 rfl Tryz.isAgg3 rfl rfl) ?_
        refine ht (i := 7) rfl (by kernel_rfl) rfl rfl rfl (fun w hw => hw.back (Gh.refl _) h073 (.cons_cons _ (.cons_cons _ (.cons _ (.cons_cons _ .slnil))))) (q_move (v := .slice A11 z5.length c12) rfl (by kernel_rfl)) ?_
        refine ht (i := 8) rfl (by kernel_rfl) rfl rfl rfl (fun w hw => hw.back (Gh.refl _) h073 (.cons_cons _ (.cons_cons _ (.cons _ (.cons_cons _ .slnil))))) (q_ixn (i := 1) Tryz.underlying24 Tryz.sizeOf3 rfl rfl rfl (of_decide_eq_true hk16) ((hr14.mono hl42).some_ (of_decide_eq_true hk16))) ?_
        refine ht (i := 9) rfl (by kernel_rfl) rfl rfl rfl (fun w hw => hw.back (Gh.refl _) h073 (.cons_cons _ (.cons_cons _ (.cons _ (.cons_cons _ .slnil))))) (q_ldo (c := 0) (v := .int .i64 (gt z5 1)) (i := 2) rfl ((hr14.mono hl42).intT_at (of_decide_eq_true hk16)).2 rfl Tryz.isAgg3 rfl rfl) ?_
        refine ht (i := 10) rfl (by kernel_rfl) rfl rfl rfl (fun w hw => hw.back (Gh.refl _) h073 (.cons_cons _ (.cons_cons _ (.cons _ (.cons_cons _ .slnil))))) (q_build' (v := .agg #[.int .i64 2, .int .i64 (gt z5 0), .int .i64 (gt z5 1)]) rfl (bargs3 rfl rfl rfl) (fun w => by kernel_rfl)) ?_
        refine WH.lone (i := 11) (by kernel_rfl) rfl ?_
        refine e_sdelete (i := 2) (x := (2, (gt z5 0), (gt z5 1))) rfl hm72 rfl rfl rfl Tryz.underlying118 rfl rfl ?_
        intro row74 hm75
        refine WR.nil ?_
        refine WH.next (fun w hw => hw.back (Gh.refl _) h073 (.cons_cons _ (.cons_cons _ (.cons _ (.cons_cons _ .slnil))))) ?_
        refine WH.done (by kernel_rfl) ?_
        change WC _ _ _ _ _ _
        refine WC.rs ?_
        refine va rfl rfl rfl (q_assign (v := .int .i64 0) rfl (by kernel_rfl)) ?_
        refine WR.nil ?_
        change WC _ _ _ _ _ _
        refine WC.ret ?_
        intro w hw
        obtain ⟨row_76, hrow_76, hob_76⟩ : ∃ rw : Rowb, rw = ([[(gt_, .cells (cs_67 ++ [Value.map (some sm_67)]).toArray (tg0 123).1 (0, 0))], rL_67, row74] : List Rowb).flatten ∧ OTree.ob (tg0 123) Γ41 gt_ rw (⟨o43.leaves, (mdel (2, (gt z5 0), (gt z5 1)) (mdel (1, (gt z5 0), 0) (mdel (0, 0, 0) o43.sums)))⟩ : OTree) := ⟨_, rfl, cs_67, rL_67, sm_67, row74, (by simp only [List.flatten_cons, List.flatten_nil, List.append_nil, List.append_assoc]), hM_67, hl_67, hm75, trivial⟩
        have hw := hw.fold (is := [0, 0, 0]) rfl hrow_76
        obtain rfl := Option.some.inj h
        subst hF
        exact end_e (is := [0]) (by kernel_rfl) hw rfl ⟨row_76, rfl, rfl, hob_76, (show I64 0 by decide), trivial⟩
abbrev r_tree_New_l1 (r : (Option OTree) × Int) (U : List Rowb) (Γ : Gh) (v : Value) : Prop := ∃ (g0 : Nat), ∃ (row0 : Rowb), v = .tuple #[optp r.1 g0, .int .i64 r.2] ∧ U = [row0] ∧ optob (OTree.ob (tg0 123) Γ g0) row0 r.1 ∧ I64 r.2 ∧ True
set_option maxRecDepth 100000 in
set_option maxHeartbeats 400000 in
theorem t_tree_New_l1 {Γ : Gh} {w0 : World} {B : Gh} {Alist : Option Addr} {clist : Nat} {list : List Rec} (hlist : Sl recT B Alist list) (hlistc : list.length ≤ clist) (hp : Pre [] Γ w0) (hpB : Pre [] B w0) {r : (Option OTree) × Int} (h : m_tree_New list = some r) : Calls Tryz.prog 44 #[.slice Alist list.length clist] w0 (Outc Γ [] w0 (r_tree_New_l1 r)) := by
  refine calls_of (N := 25) (rs := [2, 3]) (args := [.slice Alist list.length clist]) Tryz.func44 rfl Tryz.ntmps44 Tryz.results44 rfl ?_
  obtain ⟨F, hF⟩ : ∃ F : Fm, F = ⟨ids [], w0, Γ⟩ := ⟨_, rfl⟩
  refine WC.here (C := CC F Γ []) ?_ (hF ▸ hp.start)
  have hB : Lent F B := hF ▸ Lent.start hpB
  refine WC.rs ?_
  refine va rfl rfl rfl (q_assign (v := .pointer none) rfl (by kernel_rfl)) ?_
  refine va rfl rfl rfl (q_assign (v := .int .i64 0) rfl (by kernel_rfl)) ?_
  refine WR.nil ?_
  change WC _ _ _ _ _ _
  refine WC.rs ?_
  refine e_makeMap kk125 refV rfl rfl rfl rfl ?_
  intro g1 row2 hm3
  refine va rfl rfl rfl (q_build' (v := .agg (List.replicate 256 (Value.map none) ++ [Value.map (some g1)]).toArray) rfl (bargs1 rfl) (fun w => by kernel_rfl)) ?_
  refine e_box (v := .agg (List.replicate 256 (Value.map none) ++ [Value.map (some g1)]).toArray) rfl rfl rfl rfl (by kernel_rfl) ?_
  intro g4
  obtain ⟨row_5, hrow_5, hob_5⟩ : ∃ rw : Rowb, rw = ([[(g4, .cells (List.replicate 256 (Value.map none) ++ [Value.map (some g1)]).toArray (tg0 123).1 (0, 0))], row2] : List Rowb).flatten ∧ OTree.ob (tg0 123) Γ g4 rw (⟨List.replicate 256 none, []⟩ : OTree) := ⟨_, rfl, List.replicate 256 (Value.map none), [], g1, row2, (by simp only [List.flatten_cons, List.flatten_nil, List.append_nil, List.nil_append]), MapsA.nils (strK Tryz.underlying9) recT.ag _ 256, List.length_replicate, Sums.new hm3, trivial⟩
  refine WR.sub (fun w hw => Cur.fold (is := [0, 0]) (row := row_5) hw rfl hrow_5) ?_
  change WR _ _ _ (CC F Γ [row_5]) _ _ (upd _ 10 (.pointer (some ⟨g4, 0, none⟩)))
  refine va rfl rfl rfl (q_assign (v := .pointer (some ⟨g4, 0, none⟩)) rfl (by kernel_rfl)) ?_
  refine WR.nil ?_
  change WC _ _ _ _ _ _
  refine WC.seq ?_
  refine WC.rs ?_
  refine va rfl rfl rfl (q_move (v := .slice Alist list.length clist) rfl (by kernel_rfl)) ?_
  refine va rfl rfl rfl (q_len_slice rfl Tryz.underlying23 rfl) ?_
  refine va rfl rfl rfl (q_move (v := .int .i64 0) rfl (by kernel_rfl)) ?_
  refine WR.nil ?_
  change WC _ _ _ _ _ _
  refine WC.block ?_
  refine WC.forI h (fun (i12 : Nat) (o8 : OTree) σ w => ∃ (Γ6 : Gh), ∃ (row9 : Rowb), slots σ [(4, .pointer (some ⟨g4, 0, none⟩)), (11, .slice Alist list.length clist), (12, .int .i64 ((list.length : Nat) : Int)), (13, .int .i64 ((i12 : Nat) : Int))] ∧ CC F Γ6 [row9] w ∧ Gh.le Γ Γ6 ∧ OTree.ob (tg0 123) Γ6 g4 row9 o8 ∧ True) ?_ ?_
  · skip
    intro w hw
    exact ⟨Γ, row_5, (sl_ (by kernel_rfl)), hw, (Gh.refl _), hob_5, trivial⟩
  rintro f11 i12 o8 σ w hi13 hlt14 hge15 ⟨Γ6, row9, hsl, hw, hl7, ho10, -⟩
  refine Wpt.slots hsl ?_
  refine WC.here (C := CC F Γ6 [row9]) ?_ hw
  clear hw hsl
  refine WC.rs ?_
  refine va rfl rfl rfl (q_lss rfl rfl rfl) ?_
  refine WR.nil ?_
  change WC _ _ _ _ _ _
  refine WC.seq ?_
  refine WC.cond (b := (decide (((i12 : Nat) : Int) < ((list.length : Nat) : Int)))) (by kernel_rfl) (fun hb16 => ?_) (fun hb16 => ?_)
  · skip
    have hl17 := ilt hb16
    have h := hlt14 hl17
    refine WC.skip ?_
    change WC _ _ _ _ _ _
    refine WC.seq ?_
    refine WC.block ?_
    refine WC.rs ?_
    refine va rfl rfl rfl (q_ixn (i := i12) Tryz.underlying23 Tryz.sizeOf70 rfl rfl rfl hl17 (hlist.some_ hl17)) ?_
    obtain ⟨A18, c19, hx20⟩ := hlist.recT_at i12
    refine va rfl rfl rfl (q_ldaS (c := 0) (vs := [.string (gt list i12).key, .slice A18 ((gt list i12).vers).length c19]) (fun w hw => hB.sat hw) (hx20 hl17).2 rfl Tryz.isAgg70 Tryz.sizeOf70 rfl rfl rfl) ?_
    refine e_alloc Tryz.zeroValue70 rfl rfl rfl rfl ?_
    intro g21
    refine e_st (i := 0) (v := .agg #[.string (gt list i12).key, .slice A18 ((gt list i12).vers).length c19]) (new := #[.string (gt list i12).key, .slice A18 ((gt list i12).vers).length c19]) rfl Tryz.sizeOf70 rfl rfl rfl rfl (by kernel_rfl) rfl rfl rfl rfl ?_
    refine WR.nil ?_
    change WC _ _ _ _ _ _
    refine WC.rs ?_
    refine va rfl rfl rfl (q_move (v := .pointer (some ⟨g4, 0, none⟩)) rfl (by kernel_rfl)) ?_
    refine va rfl rfl rfl (q_ldla (i := 0) (vs := [.string (gt list i12).key, .slice A18 ((gt list i12).vers).length c19]) rfl rfl Tryz.isAgg70 Tryz.sizeOf70 rfl rfl) ?_
    obtain ⟨z22, hz23, h⟩ := bnd h
    refine e_callB (is := [1]) hB rfl rfl (call_run Tryz.call66 rfl rfl (by kernel_rfl)) rfl (fun w Θ hp hpB hle hleB hR => t_tree_Tree_Set_l1 ho10 (gt list i12) (Rec.fits_mono (hx20 hl17).1 hleB) hp hpB hz23) ?_
    rintro Γ24 U26 v27 hl25 ⟨row28, rfl, rfl, hr29, hr30, _⟩
    change WR _ _ _ (CC F Γ24 [row28, [(g21, .cells #[.string (gt list i12).key, .slice A18 ((gt list i12).vers).length c19] 70 (0, 0))]]) _ _ (upd _ 19 (.int .i64 z22.2))
    refine va rfl rfl rfl (q_assign (v := .int .i64 z22.2) rfl (by kernel_rfl)) ?_
    refine WR.nil ?_
    change WC _ _ _ _ _ _
    refine WC.rs ?_
    refine va rfl rfl rfl (q_move (v := .int .i64 z22.2) rfl (by kernel_rfl)) ?_
    refine va rfl rfl rfl (q_neq rfl rfl rfl) ?_
    refine WR.nil ?_
    change WC _ _ _ _ _ _
    refine WC.cif h (by kernel_rfl) (fun hb31 h => ?_) (fun hb31 h => ?_)
    · skip
      refine WC.rs ?_
      refine va rfl rfl rfl (q_move (v := .int .i64 z22.2) rfl (by kernel_rfl)) ?_
      refine va rfl rfl rfl (q_assign (v := .pointer none) rfl (by kernel_rfl)) ?_
      refine va rfl rfl rfl (q_assign (v := .int .i64 z22.2) rfl (by kernel_rfl)) ?_
      refine WR.nil ?_
      change WC _ _ _ _ _ _
      refine WC.ret ?_
      intro w hw
      have hw := hw.pad
      obtain rfl := Option.some.inj h
      subst hF
      exact end_e (is := [0]) (by kernel_rfl) hw rfl ⟨0, [], rfl, rfl, rfl, hr30, trivial⟩
    · skip
      refine WC.skip ?_
      change WC _ _ _ _ _ _
      refine WC.region ?_
      refine va rfl rfl rfl (q_add_r (r := ((i12 + 1 : Nat) : Int)) rfl rfl rfl (ctr_len hl17 hlist.le)) ?_
      refine va rfl rfl rfl (q_move (v := .int .i64 ((i12 + 1 : Nat) : Int)) rfl (by kernel_rfl)) ?_
      refine WR.nil ?_
      intro w hw
      exact ⟨hl17, z22.1, h, Γ24, row28, (sl_ (by kernel_rfl)), (hw.only (is := [0]) rfl), (hl7.trans hl25), hr29, trivial⟩
  · skip
    have h := hge15 (ige hb16)
    refine WC.exit ?_
    change WC _ _ _ _ _ _
    refine WC.rs ?_
    refine va rfl rfl rfl (q_move (v := .pointer (some ⟨g4, 0, none⟩)) rfl (by kernel_rfl)) ?_
    refine va rfl rfl rfl (q_assign (v := .pointer (some ⟨g4, 0, none⟩)) rfl (by kernel_rfl)) ?_
    refine va rfl rfl rfl (q_assign (v := .int .i64 0) rfl (by kernel_rfl)) ?_
    refine WR.nil ?_
    change WC _ _ _ _ _ _
    refine WC.ret ?_
    intro w hw
    obtain rfl := Option.some.inj h
    subst hF
    exact end_e (is := [0]) (by kernel_rfl) hw rfl ⟨g4, row9, rfl, rfl, ho10, (show I64 0 by decide), trivial⟩
set_option maxRecDepth 100000 in
set_option maxHeartbeats 400000 in
theorem t_vect_Right {Γ : Gh} {w0 : World} {Av_ : Option Addr} {cv_ : Nat} {v_ : List Int} (hv_ : Sl intT Γ Av_ v_) (hv_c : v_.length ≤ cv_) (hs : Sat Γ w0) {r : Bool} (h : m_vect_Right v_ = some r) : Calls Tryz.prog 45 #[.slice Av_ v_.length cv_] w0 (fun e w' => e = .returned (.bool r) ∧ Fr no w0 w') := by
  refine calls_of (N := 26) (rs := [2]) (args := [.slice Av_ v_.length cv_]) Tryz.func45 rfl Tryz.ntmps45 Tryz.results45 rfl ?_
  obtain ⟨F, hF⟩ : ∃ F : Fm, F = ⟨no, w0, Γ⟩ := ⟨_, rfl⟩
  refine WC.here (C := CC F Γ []) ?_ (hF ▸ Cur.start0 hs)
  refine WC.rs ?_
  refine va rfl rfl rfl (q_assign (v := .bool false) rfl (by kernel_rfl)) ?_
  refine WR.nil ?_
  change WC _ _ _ _ _ _
  refine WC.seq ?_
  refine WC.rs ?_
  refine va rfl rfl rfl (q_move (v := .slice Av_ v_.length cv_) rfl (by kernel_rfl)) ?_
  refine va rfl rfl rfl (q_len_slice rfl Tryz.underlying22 rfl) ?_
  refine va rfl rfl rfl (q_move (v := .int .i64 0) rfl (by kernel_rfl)) ?_
  refine WR.nil ?_
  change WC _ _ _ _ _ _
  refine WC.block ?_
  refine WC.forI h (fun (i2 : Nat) (s : Unit) σ w => match s with | () => slots σ [(0, .slice Av_ v_.length cv_), (5, .slice Av_ v_.length cv_), (6, .int .i64 ((v_.length : Nat) : Int)), (7, .int .i64 ((i2 : Nat) : Int))] ∧ CC F Γ [] w ∧ True) ?_ ?_
  · skip
    intro w hw
    exact ⟨(sl_ (by kernel_rfl)), hw, trivial⟩
  rintro f1 i2 ⟨⟩ σ w hi3 hlt4 hge5 ⟨hsl, hw, -⟩
  refine Wpt.slots hsl ?_
  refine WC.here (C := CC F Γ []) ?_ hw
  clear hw hsl
  refine WC.rs ?_
  refine va rfl rfl rfl (q_lss rfl rfl rfl) ?_
  refine WR.nil ?_
  change WC _ _ _ _ _ _
  refine WC.seq ?_
  refine WC.cond (b := (decide (((i2 : Nat) : Int) < ((v_.length : Nat) : Int)))) (by kernel_rfl) (fun hb6 => ?_) (fun hb6 => ?_)
  · skip
    have hl7 := ilt hb6
    have h := hlt4 hl7
    refine WC.skip ?_
    change WC _ _ _ _ _ _
    refine WC.seq ?_
    refine WC.block ?_
    refine WC.rs ?_
    refine va rfl rfl rfl (q_ixn (i := i2) Tryz.underlying22 Tryz.sizeOf2 rfl rfl rfl hl7 (hv_.some_ hl7)) ?_
    refine va rfl rfl rfl (q_ld (c := 0) (v := .int .i64 (gt v_ i2)) (hv_.intT_at hl7).2 rfl Tryz.isAgg2 rfl rfl) ?_
    refine va rfl rfl rfl (q_assign (v := .int .i64 (gt v_ i2)) rfl (by kernel_rfl)) ?_
    refine WR.nil ?_
    change WC _ _ _ _ _ _
    refine WC.rs ?_
    refine va rfl rfl rfl (q_move (v := .int .i64 (gt v_ i2)) rfl (by kernel_rfl)) ?_
    refine va rfl rfl rfl (q_lss rfl rfl rfl) ?_
    refine va rfl rfl rfl (q_move (v := .bool (decide ((gt v_ i2) < 0))) rfl (by kernel_rfl)) ?_
    refine vg0 rfl rfl rfl rfl rfl (fun hg8 => QV.qo (q_move (v := .int .i64 (gt v_ i2)) rfl (by kernel_rfl))) ?_
    refine vg0 rfl rfl rfl rfl rfl (fun hg9 => QV.qo (q_gtr rfl (gu hg9 rfl) rfl)) ?_
    refine va rfl rfl rfl (q_pick rfl rfl (pk_or' (g := (decide ((gt v_ i2) < 0))) (y := (decide (4611686018427387904 < (gt v_ i2)))))) ?_
    refine WR.nil ?_
    change WC _ _ _ _ _ _
    refine WC.cif h (by kernel_rfl) (fun hb10 h => ?_) (fun hb10 h => ?_)
    · skip
      refine WC.rs ?_
      refine va rfl rfl rfl (q_assign (v := .bool false) rfl (by kernel_rfl)) ?_
      refine WR.nil ?_
      change WC _ _ _ _ _ _
      refine WC.ret ?_
      intro w hw
      obtain rfl := Option.some.inj h
      subst hF
      exact ⟨by kernel_rfl, hw.fr⟩
    · skip
      refine WC.skip ?_
      change WC _ _ _ _ _ _
      refine WC.region ?_
      refine va rfl rfl rfl (q_add_r (r := ((i2 + 1 : Nat) : Int)) rfl rfl rfl (ctr_len hl7 hv_.le)) ?_
      refine va rfl rfl rfl (q_move (v := .int .i64 ((i2 + 1 : Nat) : Int)) rfl (by kernel_rfl)) ?_
      refine WR.nil ?_
      intro w hw
      exact ⟨hl7, (), h, (sl_ (by kernel_rfl)), hw, trivial⟩
  · skip
    have h := hge5 (ige hb6)
    refine WC.exit ?_
    change WC _ _ _ _ _ _
    refine WC.rs ?_
    refine va rfl rfl rfl (q_move (v := .slice Av_ v_.length cv_) rfl (by kernel_rfl)) ?_
    refine va rfl rfl rfl (q_len_slice rfl Tryz.underlying22 rfl) ?_
    refine va rfl rfl rfl (q_geq rfl rfl rfl) ?_
    refine va rfl rfl rfl (q_move (v := .bool (decide (1 ≤ ((v_.length : Nat) : Int)))) rfl (by kernel_rfl)) ?_
    refine vg1 rfl rfl rfl rfl rfl (fun hg11 => QV.qo (q_move (v := .slice Av_ v_.length cv_) rfl (by kernel_rfl))) ?_
    refine vg1 rfl rfl rfl rfl rfl (fun hg12 => QV.qo (q_len_slice rfl Tryz.underlying22 (gu hg12 rfl))) ?_
    refine vg1 rfl rfl rfl rfl rfl (fun hg13 => QV.qo (q_leq rfl (gu hg13 rfl) rfl)) ?_
    refine va rfl rfl rfl (q_pick rfl rfl (pk_and' (g := (decide (1 ≤ ((v_.length : Nat) : Int)))) (y := (decide (((v_.length : Nat) : Int) ≤ 16))))) ?_
    refine va rfl rfl rfl (q_assign (v := .bool ((decide (1 ≤ ((v_.length : Nat) : Int))) && (decide (((v_.length : Nat) : Int) ≤ 16)))) rfl (by kernel_rfl)) ?_
    refine WR.nil ?_
    change WC _ _ _ _ _ _
    refine WC.ret ?_
    intro w hw
    obtain rfl := Option.some.inj h
    subst hF
    exact ⟨by kernel_rfl, hw.fr⟩
abbrev r_slices_Clone_int64_int64 (r : List Int) (U : List Rowb) (Γ : Gh) (v : Value) : Prop := ∃ (A0 : Option Addr), ∃ (c0 : Nat), ∃ (row0 : Rowb), v = .slice A0 r.length c0 ∧ U = [row0] ∧ Own intT Γ 2 row0 A0 c0 r ∧ True
set_option maxRecDepth 100000 in
set_option maxHeartbeats 400000 in
theorem t_slices_Clone_int64_int64 {Γ : Gh} {w0 : World} {As_ : Option Addr} {cs_ : Nat} {s_ : List Int} (hs_ : Sl intT Γ As_ s_) (hs_c : s_.length ≤ cs_) (hp : Pre [] Γ w0) {r : List Int} (h : m_slices_Clone_int64_int64 s_ = some r) : Calls Tryz.prog 46 #[.slice As_ s_.length cs_] w0 (Outc Γ [] w0 (r_slices_Clone_int64_int64 r)) := by
  refine calls_of (N := 8) (rs := [2]) (args := [.slice As_ s_.length cs_]) Tryz.func46 rfl Tryz.ntmps46 Tryz.results46 rfl ?_
  obtain ⟨F, hF⟩ : ∃ F : Fm, F = ⟨ids [], w0, Γ⟩ := ⟨_, rfl⟩
  refine WC.here (C := CC F Γ []) ?_ (hF ▸ hp.start)
  refine WC.rs ?_
  refine va rfl rfl rfl (q_assign (v := .slice none 0 0) rfl (by kernel_rfl)) ?_
  refine WR.nil ?_
  change WC _ _ _ _ _ _
  refine WC.seq ?_
  refine WC.rs ?_
  refine va rfl rfl rfl (q_move (v := .slice As_ s_.length cs_) rfl (by kernel_rfl)) ?_
  refine va rfl rfl rfl (q_nil_slice Tryz.underlying22 rfl rfl rfl) ?_
  refine WR.nil ?_
  change WC _ _ _ _ _ _
  refine WC.cnil h (by kernel_rfl) (fun hb => hs_.none_nil hb) (fun hb1 h => ?_) (fun hb1 h => ?_)
  · skip
    refine WC.rs ?_
    refine va rfl rfl rfl (q_assign (v := .slice none 0 0) rfl (by kernel_rfl)) ?_
    refine WR.nil ?_
    change WC _ _ _ _ _ _
    refine WC.ret ?_
    intro w hw
    have hw := hw.pad
    obtain rfl := Option.some.inj h
    subst hF
    exact end_e (is := [0]) (by kernel_rfl) hw rfl ⟨none, 0, [], rfl, rfl, (Own.nil intT _ 2), trivial⟩
  · skip
    refine WC.skip ?_
    change WC _ _ _ _ _ _
    refine WC.rs ?_
    refine e_buildSlice (cs := #[]) (e := 2) rfl rfl rfl rfl (fun w => by kernel_rfl) ?_
    intro g2
    refine va rfl rfl rfl (q_move (v := .slice As_ s_.length cs_) rfl (by kernel_rfl)) ?_
    have ho3 : Own intT Γ 2 [(g2, .cells #[] 2 (0, 0))] (some ⟨g2, 0, none⟩) 0 ([] : List Int) := Own.of_blockL (T := intT) (ys := ([] : List Int)) [] rfl (show 0 ≤ lim by decide) (show True from trivial)
    obtain ⟨hk4, h⟩ := chk_some h
    refine e_append (T := intT) (xs := ([] : List Int)) (ys := s_) elem_22 (i := 0) rfl rfl rfl rfl rfl rfl rfl ho3 (of_decide_eq_true hk4) (fun w hw => src_sl hs_ hw) ?_
    intro row5 A6 c7 ho8
    refine va rfl rfl rfl (q_assign (v := .slice A6 (([] : List Int) ++ s_).length c7) rfl (by kernel_rfl)) ?_
    refine WR.nil ?_
    change WC _ _ _ _ _ _
    refine WC.ret ?_
    intro w hw
    obtain rfl := Option.some.inj h
    subst hF
    exact end_e (is := [0]) (by kernel_rfl) hw rfl ⟨A6, c7, row5, rfl, rfl, ho8, trivial⟩
abbrev r_slices_Clone_int64_int64_l1 (r : List Int) (U : List Rowb) (Γ : Gh) (v : Value) : Prop := ∃ (A0 : Option Addr), ∃ (c0 : Nat), ∃ (row0 : Rowb), v = .slice A0 r.length c0 ∧ U = [row0] ∧ Own intT Γ 2 row0 A0 c0 r ∧ True
set_option maxRecDepth 100000 in
set_option maxHeartbeats 400000 in
theorem t_slices_Clone_int64_int64_l1 {Γ : Gh} {w0 : World} {B : Gh} {As_ : Option Addr} {cs_ : Nat} {s_ : List Int} (hs_ : Sl intT B As_ s_) (hs_c : s_.length ≤ cs_) (hp : Pre [] Γ w0) (hpB : Pre [] B w0) {r : List Int} (h : m_slices_Clone_int64_int64 s_ = some r) : Calls Tryz.prog 46 #[.slice As_ s_.length cs_] w0 (Outc Γ [] w0 (r_slices_Clone_int64_int64_l1 r)) := by
  refine calls_of (N := 8) (rs := [2]) (args := [.slice As_ s_.length cs_]) Tryz.func46 rfl Tryz.ntmps46 Tryz.results46 rfl ?_
  obtain ⟨F, hF⟩ : ∃ F : Fm, F = ⟨ids [], w0, Γ⟩ := ⟨_, rfl⟩
  refine WC.here (C := CC F Γ []) ?_ (hF ▸ hp.start)
  have hB : Lent F B := hF ▸ Lent.start hpB
  refine WC.rs ?_
  refine va rfl rfl rfl (q_assign (v := .slice none 0 0) rfl (by kernel_rfl)) ?_
  refine WR.nil ?_
  change WC _ _ _ _ _ _
  refine WC.seq ?_
  refine WC.rs ?_
  refine va rfl rfl rfl (q_move (v := .slice As_ s_.length cs_) rfl (by kernel_rfl)) ?_
  refine va rfl rfl rfl (q_nil_slice Tryz.underlying22 rfl rfl rfl) ?_
  refine WR.nil ?_
  change WC _ _ _ _ _ _
  refine WC.cnil h (by kernel_rfl) (fun hb => hs_.none_nil hb) (fun hb1 h => ?_) (fun hb1 h => ?_)
  · skip
    refine WC.rs ?_
    refine va rfl rfl rfl (q_assign (v := .slice none 0 0) rfl (by kernel_rfl)) ?_
    refine WR.nil ?_
    change WC _ _ _ _ _ _
    refine WC.ret ?_
    intro w hw
    have hw := hw.pad
    obtain rfl := Option.some.inj h
    subst hF
    exact end_e (is := [0]) (by kernel_rfl) hw rfl ⟨none, 0, [], rfl, rfl, (Own.nil intT _ 2), trivial⟩
  · skip
    refine WC.skip ?_
    change WC _ _ _ _ _ _
    refine WC.rs ?_
    refine e_buildSlice (cs := #[]) (e := 2) rfl rfl rfl rfl (fun w => by kernel_rfl) ?_
    intro g2
    refine va rfl rfl rfl (q_move (v := .slice As_ s_.length cs_) rfl (by kernel_rfl)) ?_
    have ho3 : Own intT Γ 2 [(g2, .cells #[] 2 (0, 0))] (some ⟨g2, 0, none⟩) 0 ([] : List Int) := Own.of_blockL (T := intT) (ys := ([] : List Int)) [] rfl (show 0 ≤ lim by decide) (show True from trivial)
    obtain ⟨hk4, h⟩ := chk_some h
    refine e_append (T := intT) (xs := ([] : List Int)) (ys := s_) elem_22 (i := 0) rfl rfl rfl rfl rfl rfl rfl ho3 (of_decide_eq_true hk4) (fun w hw => src_slS (Γ := Γ) (fun w hw => hB.sat hw) (fun _ _ h => h) hs_ hw) ?_
    intro row5 A6 c7 ho8
    refine va rfl rfl rfl (q_assign (v := .slice A6 (([] : List Int) ++ s_).length c7) rfl (by kernel_rfl)) ?_
    refine WR.nil ?_
    change WC _ _ _ _ _ _
    refine WC.ret ?_
    intro w hw
    obtain rfl := Option.some.inj h
    subst hF
    exact end_e (is := [0]) (by kernel_rfl) hw rfl ⟨A6, c7, row5, rfl, rfl, ho8, trivial⟩
abbrev r_pull_NewCut_l0 (r : (Option Opull_Cut) × Int) (U : List Rowb) (Γ : Gh) (v : Value) : Prop := ∃ (g0 : Nat), ∃ (row0 : Rowb), v = .tuple #[optp r.1 g0, .int .i64 r.2] ∧ U = [row0] ∧ optob (Opull_Cut.ob 85 Γ g0) row0 r.1 ∧ I64 r.2 ∧ True
set_option maxRecDepth 100000 in
set_option maxHeartbeats 400000 in
theorem t_pull_NewCut_l0 {Γ : Gh} {w0 : World} {B : Gh} (id : Int) (hid : I64 id) {Avec : Option Addr} {cvec : Nat} {vec : List Int} (hvec : Sl intT B Avec vec) (hvecc : vec.length ≤ cvec) {Alist : Option Addr} {clist : Nat} {list : List Rec} (hlist : Sl recT B Alist list) (hlistc : list.length ≤ clist) (hp : Pre [] Γ w0) (hpB : Pre [] B w0) {r : (Option Opull_Cut) × Int} (h : m_pull_NewCut id vec list = some r) : Calls Tryz.prog 10 #[.int .i64 id, .slice Avec vec.length cvec, .slice Alist list.length clist] w0 (Outc Γ [] w0 (r_pull_NewCut_l0 r)) := by
  refine calls_of (N := 28) (rs := [6, 7]) (args := [.int .i64 id, .slice Avec vec.length cvec, .slice Alist list.length clist]) Tryz.func10 rfl Tryz.ntmps10 Tryz.results10 rfl ?_
  obtain ⟨F, hF⟩ : ∃ F : Fm, F = ⟨ids [], w0, Γ⟩ := ⟨_, rfl⟩
  refine WC.here (C := CC F Γ []) ?_ (hF ▸ hp.start)
  have hB : Lent F B := hF ▸ Lent.start hpB
  refine WC.rs ?_
  refine va rfl rfl rfl (q_assign (v := .pointer none) rfl (by kernel_rfl)) ?_
  refine va rfl rfl rfl (q_assign (v := .int .i64 0) rfl (by kernel_rfl)) ?_
  refine WR.nil ?_
  change WC _ _ _ _ _ _
  refine WC.rs ?_
  refine va rfl rfl rfl (q_move (v := .slice Alist list.length clist) rfl (by kernel_rfl)) ?_
  obtain ⟨z1, hz2, h⟩ := bnd h
  refine e_callB (is := []) hB rfl rfl (call_run Tryz.call44 rfl rfl (by kernel_rfl)) rfl (fun w Θ hp hpB hle hleB hR => t_tree_New_l1 (hlist.mono hleB) hlistc hp hpB hz2) ?_
  rintro Γ3 U5 v6 hl4 ⟨g7, row8, rfl, rfl, hr9, hr10, _⟩
  change WR _ _ _ (CC F Γ3 [row8]) _ _ (upd _ 12 (.tuple #[optp z1.1 g7, .int .i64 z1.2]))
  refine va rfl rfl rfl (q_move (v := .tuple #[optp z1.1 g7, .int .i64 z1.2]) rfl (by kernel_rfl)) ?_
  refine va rfl rfl rfl (q_extract (v := optp z1.1 g7) rfl rfl rfl) ?_
  refine va rfl rfl rfl (q_extract (v := .int .i64 z1.2) rfl rfl rfl) ?_
  refine va rfl rfl rfl (q_assign (v := optp z1.1 g7) rfl (by kernel_rfl)) ?_
  refine va rfl rfl rfl (q_assign (v := .int .i64 z1.2) rfl (by kernel_rfl)) ?_
  refine WR.nil ?_
  change WC _ _ _ _ _ _
  refine WC.seq ?_
  refine WC.rs ?_
  refine va rfl rfl rfl (q_move (v := .int .i64 z1.2) rfl (by kernel_rfl)) ?_
  refine va rfl rfl rfl (q_neq rfl rfl rfl) ?_
  refine va rfl rfl rfl (q_move (v := .bool (z1.2 != 0)) rfl (by kernel_rfl)) ?_
  refine vg0 rfl rfl rfl rfl rfl (fun hg11 => QV.qo (q_move (v := .slice Avec vec.length cvec) rfl (by kernel_rfl))) ?_
  obtain ⟨z13, hz14, h⟩ := bnd h
  refine vg0 rfl rfl rfl rfl rfl (fun hg12 => (q_call (call_run Tryz.call45 rfl rfl (args1 (gu hg12 rfl))) (fun w hw => t_vect_Right (Γ := Gh.all w) (hvec.mono ((fun w hw => hB.sat hw) w hw).le_all) hvecc (Sat.all w) (gc_of hz14 hg12)))) ?_
  refine vg0 rfl rfl rfl rfl rfl (fun hg15 => QV.qo (q_not rfl (gu hg15 rfl))) ?_
  refine va rfl rfl rfl (q_pick rfl rfl (pk_or' (g := (z1.2 != 0)) (y := (!z13)))) ?_
  refine WR.nil ?_
  change WC _ _ _ _ _ _
  refine WC.cif h (by kernel_rfl) (fun hb16 h => ?_) (fun hb16 h => ?_)
  · skip
    refine WC.rs ?_
    refine va rfl rfl rfl (q_assign (v := .pointer none) rfl (by kernel_rfl)) ?_
    refine va rfl rfl rfl (q_assign (v := .int .i64 1) rfl (by kernel_rfl)) ?_
    refine WR.nil ?_
    change WC _ _ _ _ _ _
    refine WC.ret ?_
    intro w hw
    have hw := hw.pad
    obtain rfl := Option.some.inj h
    subst hF
    exact end_e (is := [0]) (by kernel_rfl) hw rfl ⟨0, [], rfl, rfl, rfl, (show I64 1 by decide), trivial⟩
  · skip
    refine WC.skip ?_
    change WC _ _ _ _ _ _
    refine WC.rs ?_
    refine va rfl rfl rfl (q_move (v := .int .i64 id) rfl (by kernel_rfl)) ?_
    refine va rfl rfl rfl (q_move (v := .slice Avec vec.length cvec) rfl (by kernel_rfl)) ?_
    obtain ⟨z17, hz18, h⟩ := bnd h
    refine e_callB (is := []) hB rfl rfl (call_run Tryz.call46 rfl rfl (by kernel_rfl)) rfl (fun w Θ hp hpB hle hleB hR => t_slices_Clone_int64_int64_l1 (hvec.mono hleB) hvecc hp hpB hz18) ?_
    rintro Γ19 U21 v22 hl20 ⟨A23, c24, row25, rfl, rfl, hr26, _⟩
    change WR _ _ _ (CC F Γ19 [row25, row8]) _ _ (upd _ 24 (.slice A23 z17.length c24))
    refine va rfl rfl rfl (q_move (v := optp z1.1 g7) rfl (by kernel_rfl)) ?_
    obtain ⟨z27, hz28, h⟩ := bnd h
    have ho29 := optob_some (optob_mono hr9 (fun _ h => h.mono hl20)) hz28
    refine va rfl rfl rfl (q_build' (v := .agg #[.int .i64 id, .slice A23 z17.length c24, .pointer (some ⟨g7, 0, none⟩)]) rfl (bargs3 rfl rfl (optp_some rfl hz28)) (fun w => by kernel_rfl)) ?_
    refine e_box (v := .agg #[.int .i64 id, .slice A23 z17.length c24, .pointer (some ⟨g7, 0, none⟩)]) rfl rfl rfl rfl (by kernel_rfl) ?_
    intro g30
    refine va rfl rfl rfl (q_assign (v := .pointer (some ⟨g30, 0, none⟩)) rfl (by kernel_rfl)) ?_
    refine va rfl rfl rfl (q_assign (v := .int .i64 0) rfl (by kernel_rfl)) ?_
    refine WR.nil ?_
    change WC _ _ _ _ _ _
    refine WC.ret ?_
    intro w hw
    have hc35 := hr26.capz
    obtain ⟨Γ31, hw, hl32, hr33⟩ := hw.seal (i := 1) rfl; have hs34 := hr26.sl hl32 hr33
    obtain ⟨row_36, hrow_36, hob_36⟩ : ∃ rw : Rowb, rw = ([[(g30, .cells #[.int .i64 id, .slice A23 z17.length c24, .pointer (some ⟨g7, 0, none⟩)] 85 (0, 0))], row8] : List Rowb).flatten ∧ Opull_Cut.ob 85 Γ31 g30 rw (⟨id, z17, z27⟩ : Opull_Cut) := ⟨_, rfl, A23, c24, g7, row8, rfl, hid, hc35, hs34, (ho29.mono hl32), trivial⟩
    have hw := hw.fold (is := [0, 1]) rfl hrow_36
    obtain rfl := Option.some.inj h
    subst hF
    exact end_e (is := [0]) (by kernel_rfl) hw rfl ⟨g30, row_36, rfl, rfl, hob_36, (show I64 0 by decide), trivial⟩
abbrev r_pull_NewPull (r : (Option Opull_Pull) × Int) (U : List Rowb) (Γ : Gh) (v : Value) : Prop := ∃ (g0 : Nat), ∃ (row0 : Rowb), v = .tuple #[optp r.1 g0, .int .i64 r.2] ∧ U = [row0] ∧ optob (Opull_Pull.ob 97 Γ g0) row0 r.1 ∧ I64 r.2 ∧ True
set_option maxRecDepth 100000 in
set_option maxHeartbeats 400000 in
theorem t_pull_NewPull {Γ : Gh} {w0 : World} (id : Int) (hid : I64 id) {Aown : Option Addr} {cown : Nat} {own : List Rec} (hown : Sl recT Γ Aown own) (hownc : own.length ≤ cown) (hp : Pre [] Γ w0) {r : (Option Opull_Pull) × Int} (h : m_pull_NewPull id own = some r) : Calls Tryz.prog 22 #[.int .i64 id, .slice Aown own.length cown] w0 (Outc Γ [] w0 (r_pull_NewPull r)) := by
  refine calls_of (N := 27) (rs := [4, 5]) (args := [.int .i64 id, .slice Aown own.length cown]) Tryz.func22 rfl Tryz.ntmps22 Tryz.results22 rfl ?_
  obtain ⟨F, hF⟩ : ∃ F : Fm, F = ⟨ids [], w0, Γ⟩ := ⟨_, rfl⟩
  refine WC.here (C := CC F Γ []) ?_ (hF ▸ hp.start)
  refine WC.rs ?_
  refine va rfl rfl rfl (q_assign (v := .pointer none) rfl (by kernel_rfl)) ?_
  refine va rfl rfl rfl (q_assign (v := .int .i64 0) rfl (by kernel_rfl)) ?_
  refine WR.nil ?_
  change WC _ _ _ _ _ _
  refine WC.rs ?_
  refine va rfl rfl rfl (q_move (v := .slice Aown own.length cown) rfl (by kernel_rfl)) ?_
  obtain ⟨z1, hz2, h⟩ := bnd h
  refine e_call (is := []) rfl rfl (call_run Tryz.call44 rfl rfl (by kernel_rfl)) rfl (fun w hp => t_tree_New hown hownc hp hz2) ?_
  rintro Γ3 U5 v6 hl4 ⟨g7, row8, rfl, rfl, hr9, hr10, _⟩
  change WR _ _ _ (CC F Γ3 [row8]) _ _ (upd _ 12 (.tuple #[optp z1.1 g7, .int .i64 z1.2]))
  refine va rfl rfl rfl (q_move (v := .tuple #[optp z1.1 g7, .int .i64 z1.2]) rfl (by kernel_rfl)) ?_
  refine va rfl rfl rfl (q_extract (v := optp z1.1 g7) rfl rfl rfl) ?_
  refine va rfl rfl rfl (q_extract (v := .int .i64 z1.2) rfl rfl rfl) ?_
  refine va rfl rfl rfl (q_assign (v := optp z1.1 g7) rfl (by kernel_rfl)) ?_
  refine va rfl rfl rfl (q_assign (v := .int .i64 z1.2) rfl (by kernel_rfl)) ?_
  refine WR.nil ?_
  change WC _ _ _ _ _ _
  refine WC.seq ?_
  refine WC.rs ?_
  refine va rfl rfl rfl (q_move (v := .int .i64 z1.2) rfl (by kernel_rfl)) ?_
  refine va rfl rfl rfl (q_neq rfl rfl rfl) ?_
  refine WR.nil ?_
  change WC _ _ _ _ _ _
  refine WC.cif h (by kernel_rfl) (fun hb11 h => ?_) (fun hb11 h => ?_)
  · skip
    refine WC.rs ?_
    refine va rfl rfl rfl (q_move (v := .int .i64 z1.2) rfl (by kernel_rfl)) ?_
    refine va rfl rfl rfl (q_assign (v := .pointer none) rfl (by kernel_rfl)) ?_
    refine va rfl rfl rfl (q_assign (v := .int .i64 z1.2) rfl (by kernel_rfl)) ?_
    refine WR.nil ?_
    change WC _ _ _ _ _ _
    refine WC.ret ?_
    intro w hw
    have hw := hw.pad
    obtain rfl := Option.some.inj h
    subst hF
    exact end_e (is := [0]) (by kernel_rfl) hw rfl ⟨0, [], rfl, rfl, rfl, hr10, trivial⟩
  · skip
    refine WC.skip ?_
    change WC _ _ _ _ _ _
    refine WC.rs ?_
    obtain ⟨z12, hz13, h⟩ := bnd h
    refine e_call (is := []) rfl rfl (call_run Tryz.call44 rfl rfl (by kernel_rfl)) rfl (fun w hp => t_tree_New (Sl.nil recT _ none) (Nat.zero_le 0) hp hz13) ?_
    rintro Γ14 U16 v17 hl15 ⟨g18, row19, rfl, rfl, hr20, hr21, _⟩
    change WR _ _ _ (CC F Γ14 [row19, row8]) _ _ (upd _ 19 (.tuple #[optp z12.1 g18, .int .i64 z12.2]))
    refine va rfl rfl rfl (q_move (v := .tuple #[optp z12.1 g18, .int .i64 z12.2]) rfl (by kernel_rfl)) ?_
    refine va rfl rfl rfl (q_extract (v := optp z12.1 g18) rfl rfl rfl) ?_
    refine va rfl rfl rfl (q_extract (v := .int .i64 z12.2) rfl rfl rfl) ?_
    refine va rfl rfl rfl (q_assign (v := optp z12.1 g18) rfl (by kernel_rfl)) ?_
    refine va rfl rfl rfl (q_assign (v := .int .i64 z12.2) rfl (by kernel_rfl)) ?_
    refine WR.nil ?_
    change WC _ _ _ _ _ _
    refine WC.rs ?_
    refine va rfl rfl rfl (q_move (v := .int .i64 id) rfl (by kernel_rfl)) ?_
    refine va rfl rfl rfl (q_move (v := optp z1.1 g7) rfl (by kernel_rfl)) ?_
    refine va rfl rfl rfl (q_move (v := optp z12.1 g18) rfl (by kernel_rfl)) ?_
    obtain ⟨z22, hz23, h⟩ := bnd h
    have ho24 := optob_some (optob_mono hr9 (fun _ h => h.mono hl15)) hz23
    obtain ⟨z25, hz26, h⟩ := bnd h
    have ho27 := optob_some hr20 hz26
    refine va rfl rfl rfl (q_build' (v := .agg #[.int .i64 id, .pointer (some ⟨g7, 0, none⟩), .bool false, .slice none 0 0, .slice none 0 0, .pointer (some ⟨g18, 0, none⟩)]) rfl (bargs3 rfl (optp_some rfl hz23) (optp_some rfl hz26)) (fun w => by kernel_rfl)) ?_
    refine e_box (v := .agg #[.int .i64 id, .pointer (some ⟨g7, 0, none⟩), .bool false, .slice none 0 0, .slice none 0 0, .pointer (some ⟨g18, 0, none⟩)]) rfl rfl rfl rfl (by kernel_rfl) ?_
    intro g28
    refine va rfl rfl rfl (q_assign (v := .pointer (some ⟨g28, 0, none⟩)) rfl (by kernel_rfl)) ?_
    refine va rfl rfl rfl (q_assign (v := .int .i64 0) rfl (by kernel_rfl)) ?_
    refine WR.nil ?_
    change WC _ _ _ _ _ _
    refine WC.ret ?_
    intro w hw
    have hw := hw.pad
    obtain ⟨row_29, hrow_29, hob_29⟩ : ∃ rw : Rowb, rw = ([[(g28, .cells #[.int .i64 id, .pointer (some ⟨g7, 0, none⟩), .bool false, .slice none 0 0, .slice none 0 0, .pointer (some ⟨g18, 0, none⟩)] 97 (0, 0))], row8, [], row19] : List Rowb).flatten ∧ Opull_Pull.ob 97 Γ14 g28 rw (⟨id, z22, false, [], [], z25⟩ : Opull_Pull) := ⟨_, rfl, g7, row8, none, 0, none, 0, [], g18, row19, rfl, hid, ho24, (Nat.zero_le 0), (Sl.nil _ _ none), (Own.nil dpull_wayT Γ14 100), ho27, trivial⟩
    have hw := hw.fold (is := [1, 2, 0, 0]) rfl hrow_29
    obtain rfl := Option.some.inj h
    subst hF
    exact end_e (is := [0]) (by kernel_rfl) hw rfl ⟨g28, row_29, rfl, rfl, hob_29, (show I64 0 by decide), trivial⟩
set_option maxRecDepth 100000 in
set_option maxHeartbeats 400000 in
theorem t_pull_Pull_Done {Γ : Gh} {w0 : World} {gp_ ep_ : Nat} {rowp_ : Rowb} {p_ : Opull_Pull} (hp_ : Opull_Pull.ob ep_ Γ gp_ rowp_ p_) (hp_r : ∀ p ∈ rowp_, Γ p.1 = some p.2) (hs : Sat Γ w0) {r : Bool} (h : m_pull_Pull_Done p_ = some r) : Calls Tryz.prog 28 #[.pointer (some ⟨gp_, 0, none⟩)] w0 (fun e w' => e = .returned (.bool r) ∧ Fr no w0 w') := by
  refine calls_of (N := 15) (rs := [2]) (args := [.pointer (some ⟨gp_, 0, none⟩)]) Tryz.func28 rfl Tryz.ntmps28 Tryz.results28 rfl ?_
  obtain ⟨F, hF⟩ : ∃ F : Fm, F = ⟨no, w0, Γ⟩ := ⟨_, rfl⟩
  refine WC.here (C := CC F Γ []) ?_ (hF ▸ Cur.start0 hs)
  refine WC.rs ?_
  refine va rfl rfl rfl (q_assign (v := .bool false) rfl (by kernel_rfl)) ?_
  refine WR.nil ?_
  change WC _ _ _ _ _ _
  refine WC.rs ?_
  refine va rfl rfl rfl (q_move (v := .pointer (some ⟨gp_, 0, none⟩)) rfl (by kernel_rfl)) ?_
  refine va rfl rfl rfl (q_nil (A := some ⟨gp_, 0, none⟩) rfl rfl rfl) ?_
  refine va rfl rfl rfl (q_fl 2 fld_97_2 rfl rfl rfl) ?_
  have hq := hp_
  obtain ⟨g1_1, r1_1, A3_1, c3_1, A4_1, c4_1, r4_1, g5_1, r5_1, hrow_1, ho0_1, ho1_1, ho2_1, ho3_1, ho4_1, ho5_1, -⟩ := hq
  have hg_2 : ∀ u ∈ ([[(gp_, .cells #[.int .i64 p_.id, .pointer (some ⟨g1_1, 0, none⟩), .bool p_.begun, .slice A3_1 p_.vec.length c3_1, .slice A4_1 p_.wants.length c4_1, .pointer (some ⟨g5_1, 0, none⟩)] ep_ (0, 0))], r1_1, r4_1, r5_1] : List Rowb), ∀ p ∈ u, Γ p.1 = some p.2 := fun u hu p hp => (fun p hp => (hp_r p hp)) p (hrow_1 ▸ List.mem_flatten.2 ⟨u, hu, hp⟩)
  have hgc3 := hg_2 _ (List.mem_cons_self ..) (gp_, _) (List.mem_singleton.2 rfl)
  have hgs4 := hg_2 r1_1 (by simp)
  have hgs5 := hg_2 r4_1 (by simp)
  have hgs6 := hg_2 r5_1 (by simp)
  have hs7 := ho4_1.sl (Gh.refl _) hgs5
  refine va rfl rfl rfl (q_ldg (v := .bool p_.begun) hgc3 rfl Tryz.isAgg4 rfl rfl) ?_
  refine va rfl rfl rfl (q_move (v := .bool p_.begun) rfl (by kernel_rfl)) ?_
  refine vg1 rfl rfl rfl rfl rfl (fun hg8 => QV.qo (q_move (v := .pointer (some ⟨gp_, 0, none⟩)) rfl (by kernel_rfl))) ?_
  refine vg1 rfl rfl rfl rfl rfl (fun hg9 => QV.qo (q_nil (A := some ⟨gp_, 0, none⟩) rfl (gu hg9 rfl) rfl)) ?_
  refine vg1 rfl rfl rfl rfl rfl (fun hg10 => QV.qo (q_fl 4 fld_97_4 rfl (gu hg10 rfl) rfl)) ?_
  refine vg1 rfl rfl rfl rfl rfl (fun hg11 => QV.qo (q_ldg (v := .slice A4_1 p_.wants.length c4_1) hgc3 rfl Tryz.isAgg95 (gu hg11 rfl) rfl)) ?_
  refine vg1 rfl rfl rfl rfl rfl (fun hg12 => QV.qo (q_len_slice rfl Tryz.underlying95 (gu hg12 rfl))) ?_
  refine vg1 rfl rfl rfl rfl rfl (fun hg13 => QV.qo (q_eql rfl (gu hg13 rfl) rfl)) ?_
  refine va rfl rfl rfl (q_pick rfl rfl (pk_and' (g := p_.begun) (y := (((p_.wants.length : Nat) : Int) == 0)))) ?_
  refine va rfl rfl rfl (q_assign (v := .bool (p_.begun && (((p_.wants.length : Nat) : Int) == 0))) rfl (by kernel_rfl)) ?_
  refine WR.nil ?_
  change WC _ _ _ _ _ _
  refine WC.ret ?_
  intro w hw
  obtain rfl := Option.some.inj h
  subst hF
  exact ⟨by kernel_rfl, hw.fr⟩
abbrev r_pull_Cut_Vec (gc_ : Nat) (ec_ : Nat) (rowc_ : Rowb) (r : List Int) (U : List Rowb) (Γ : Gh) (v : Value) : Prop := ∃ (A0 : Option Addr), ∃ (c0 : Nat), ∃ (row0 : Rowb), v = .slice A0 r.length c0 ∧ U = [rowc_, row0] ∧ Own intT Γ 2 row0 A0 c0 r ∧ True
set_option maxRecDepth 100000 in
set_option maxHeartbeats 400000 in
theorem t_pull_Cut_Vec {Γ : Gh} {w0 : World} {gc_ ec_ : Nat} {rowc_ : Rowb} {c_ : Opull_Cut} (hc_ : Opull_Cut.ob ec_ Γ gc_ rowc_ c_) (hp : Pre [rowc_] Γ w0) {r : List Int} (h : m_pull_Cut_Vec c_ = some r) : Calls Tryz.prog 18 #[.pointer (some ⟨gc_, 0, none⟩)] w0 (Outc Γ [rowc_] w0 (r_pull_Cut_Vec gc_ ec_ rowc_ r)) := by
  refine calls_of (N := 8) (rs := [2]) (args := [.pointer (some ⟨gc_, 0, none⟩)]) Tryz.func18 rfl Tryz.ntmps18 Tryz.results18 rfl ?_
  obtain ⟨F, hF⟩ : ∃ F : Fm, F = ⟨ids [rowc_], w0, Γ⟩ := ⟨_, rfl⟩
  refine WC.here (C := CC F Γ [rowc_]) ?_ (hF ▸ hp.start)
  refine WC.rs ?_
  refine va rfl rfl rfl (q_assign (v := .slice none 0 0) rfl (by kernel_rfl)) ?_
  refine WR.nil ?_
  change WC _ _ _ _ _ _
  refine WC.rs ?_
  refine va rfl rfl rfl (q_move (v := .pointer (some ⟨gc_, 0, none⟩)) rfl (by kernel_rfl)) ?_
  refine va rfl rfl rfl (q_nil (A := some ⟨gc_, 0, none⟩) rfl rfl rfl) ?_
  refine va rfl rfl rfl (q_fl 1 fld_85_1 rfl rfl rfl) ?_
  have hq := hc_
  obtain ⟨A1_1, c1_1, g2_1, r2_1, hrow_1, ho0_1, ho1_1, ho2_1, ho3_1, -⟩ := hq
  intro w hw; have hw := hw.unfold (i := 0) rfl hrow_1
  refine WR.here (C := CC F Γ [[(gc_, .cells #[.int .i64 c_.id, .slice A1_1 c_.vec.length c1_1, .pointer (some ⟨g2_1, 0, none⟩)] ec_ (0, 0))], r2_1]) ?_ hw
  clear hw
  refine va rfl rfl rfl (q_ldl (i := 0) (v := .slice A1_1 c_.vec.length c1_1) rfl rfl Tryz.isAgg22 rfl rfl) ?_
  obtain ⟨z2, hz3, h⟩ := bnd h
  refine e_call (is := []) rfl rfl (call_run Tryz.call46 rfl rfl (by kernel_rfl)) rfl (fun w hp => t_slices_Clone_int64_int64 ho2_1 ho1_1 hp hz3) ?_
  rintro Γ4 U6 v7 hl5 ⟨A8, c9, row10, rfl, rfl, hr11, _⟩
  change WR _ _ _ (CC F Γ4 [row10, [(gc_, .cells #[.int .i64 c_.id, .slice A1_1 c_.vec.length c1_1, .pointer (some ⟨g2_1, 0, none⟩)] ec_ (0, 0))], r2_1]) _ _ (upd _ 7 (.slice A8 z2.length c9))
  refine va rfl rfl rfl (q_assign (v := .slice A8 z2.length c9) rfl (by kernel_rfl)) ?_
  refine WR.nil ?_
  change WC _ _ _ _ _ _
  refine WC.ret ?_
  intro w hw
  have hw := hw.fold (is := [1, 1]) rfl hrow_1
  obtain rfl := Option.some.inj h
  subst hF
  exact end_e (is := [0, 0]) (by kernel_rfl) hw rfl ⟨A8, c9, row10, rfl, rfl, hr11, trivial⟩
set_option maxRecDepth 100000 in
set_option maxHeartbeats 400000 in
theorem t_tree_at {Γ : Gh} {w0 : World} {Apath : Option Addr} {cpath : Nat} {path : List Int} (hpath : Sl intT Γ Apath path) (hpathc : path.length ≤ cpath) (hs : Sat Γ w0) {r : (Int × Int × Int) × Bool} (h : m_tree_at path = some r) : Calls Tryz.prog 74 #[.slice Apath path.length cpath] w0 (fun e w' => e = .returned (.tuple #[.agg #[.int .i64 r.1.1, .int .i64 r.1.2.1, .int .i64 r.1.2.2], .bool r.2]) ∧ Fr no w0 w') := by
  refine calls_of_r (N := 34) (rs := [.cell 2 125, .tmp 3]) (args := [.slice Apath path.length cpath]) Tryz.func74 rfl Tryz.ntmps74 Tryz.results74 rfl ?_
  obtain ⟨F, hF⟩ : ∃ F : Fm, F = ⟨no, w0, Γ⟩ := ⟨_, rfl⟩
  refine WC.here (C := CC F Γ []) ?_ (hF ▸ Cur.start0 hs)
  refine WC.rs ?_
  refine e_alloc Tryz.zeroValue125 rfl rfl rfl rfl ?_
  intro g1
  refine va rfl rfl rfl (q_assign (v := .bool false) rfl (by kernel_rfl)) ?_
  refine WR.nil ?_
  change WC _ _ _ _ _ _
  refine WC.rs ?_
  refine va rfl rfl rfl (q_move (v := .slice Apath path.length cpath) rfl (by kernel_rfl)) ?_
  refine va rfl rfl rfl (q_len_slice rfl Tryz.underlying24 rfl) ?_
  refine va rfl rfl rfl (q_build' (v := .agg #[.int .i64 ((path.length : Nat) : Int), .int .i64 0, .int .i64 0]) rfl (bargs1 rfl) (fun w => by kernel_rfl)) ?_
  refine e_alloc Tryz.zeroValue125 rfl rfl rfl rfl ?_
  intro g2
  refine e_st (i := 0) (v := .agg #[.int .i64 ((path.length : Nat) : Int), .int .i64 0, .int .i64 0]) (new := #[.int .i64 ((path.length : Nat) : Int), .int .i64 0, .int .i64 0]) rfl Tryz.sizeOf125 rfl rfl rfl rfl (by kernel_rfl) rfl rfl rfl rfl ?_
  refine WR.nil ?_
  change WC _ _ _ _ _ _
  refine WC.seq ?_
  refine WC.rs ?_
  refine va rfl rfl rfl (q_move (v := .slice Apath path.length cpath) rfl (by kernel_rfl)) ?_
  refine va rfl rfl rfl (q_len_slice rfl Tryz.underlying24 rfl) ?_
  refine va rfl rfl rfl (q_move (v := .int .i64 0) rfl (by kernel_rfl)) ?_
  refine WR.nil ?_
  change WC _ _ _ _ _ _
  refine WC.block ?_
  have ho3 : Own intT Γ 125 [(g2, .cells #[.int .i64 ((path.length : Nat) : Int), .int .i64 0, .int .i64 0] 125 (0, 0))] (some ⟨g2, 0, none⟩) 3 [((path.length : Nat) : Int), 0, 0] := Own.of_blockL (T := intT) (ys := [((path.length : Nat) : Int), 0, 0]) [[.int .i64 ((path.length : Nat) : Int)], [.int .i64 0], [.int .i64 0]] rfl (show 3 ≤ lim by decide) (show Ty.rd intT Γ [.int .i64 ((path.length : Nat) : Int)] ((path.length : Nat) : Int) ∧ Ty.rd intT Γ [.int .i64 0] 0 ∧ Ty.rd intT Γ [.int .i64 0] 0 ∧ True from ⟨⟨rfl, (len_r hpath.le)⟩, ⟨rfl, (show I64 0 by decide)⟩, ⟨rfl, (show I64 0 by decide)⟩, trivial⟩)
  refine WC.forI h (fun (i9 : Nat) (x4 : List Int) σ w => ∃ (row5 : Rowb), slots σ [(2, .pointer (some ⟨g1, 0, none⟩)), (4, .pointer (some ⟨g2, 0, none⟩)), (10, .slice Apath path.length cpath), (11, .int .i64 ((path.length : Nat) : Int)), (12, .int .i64 ((i9 : Nat) : Int))] ∧ CC F Γ [row5, [(g1, .cells #[.int .i64 0, .int .i64 0, .int .i64 0] 125 (0, 0))]] w ∧ x4.length = 3 ∧ Own intT Γ 125 row5 (some ⟨g2, 0, none⟩) 3 x4 ∧ True) ?_ ?_
  · skip
    intro w hw
    exact ⟨[(g2, .cells #[.int .i64 ((path.length : Nat) : Int), .int .i64 0, .int .i64 0] 125 (0, 0))], (sl_ (by kernel_rfl)), hw, rfl, ho3, trivial⟩
  rintro f8 i9 x4 σ w hi10 hlt11 hge12 ⟨row5, hsl, hw, hn7, ho6, -⟩
  refine Wpt.slots hsl ?_
  refine WC.here (C := CC F Γ [row5, [(g1, .cells #[.int .i64 0, .int .i64 0, .int .i64 0] 125 (0, 0))]]) ?_ hw
  clear hw hsl
  refine WC.rs ?_
  refine va rfl rfl rfl (q_lss rfl rfl rfl) ?_
  refine WR.nil ?_
  change WC _ _ _ _ _ _
  refine WC.seq ?_
  refine WC.cond (b := (decide (((i9 : Nat) : Int) < ((path.length : Nat) : Int)))) (by kernel_rfl) (fun hb13 => ?_) (fun hb13 => ?_)
  · skip
    have hl14 := ilt hb13
    have h := hlt11 hl14
    refine WC.skip ?_
    change WC _ _ _ _ _ _
    refine WC.seq ?_
    refine WC.block ?_
    refine WC.rs ?_
    refine va rfl rfl rfl (q_move (v := .int .i64 ((i9 : Nat) : Int)) rfl (by kernel_rfl)) ?_
    refine va rfl rfl rfl (q_ixn (i := i9) Tryz.underlying24 Tryz.sizeOf3 rfl rfl rfl hl14 (hpath.some_ hl14)) ?_
    refine va rfl rfl rfl (q_ld (c := 0) (v := .int .i64 (gt path i9)) (hpath.intT_at hl14).2 rfl Tryz.isAgg3 rfl rfl) ?_
    refine va rfl rfl rfl (q_assign (v := .int .i64 ((i9 : Nat) : Int)) rfl (by kernel_rfl)) ?_
    refine va rfl rfl rfl (q_assign (v := .int .i64 (gt path i9)) rfl (by kernel_rfl)) ?_
    refine WR.nil ?_
    change WC _ _ _ _ _ _
    refine WC.seq ?_
    refine WC.rs ?_
    refine va rfl rfl rfl (q_move (v := .int .i64 ((i9 : Nat) : Int)) rfl (by kernel_rfl)) ?_
    refine va rfl rfl rfl (q_gtr rfl rfl rfl) ?_
    refine va rfl rfl rfl (q_move (v := .bool (decide (1 < ((i9 : Nat) : Int)))) rfl (by kernel_rfl)) ?_
    refine vg0 rfl rfl rfl rfl rfl (fun hg15 => QV.qo (q_move (v := .int .i64 (gt path i9)) rfl (by kernel_rfl))) ?_
    refine vg0 rfl rfl rfl rfl rfl (fun hg16 => QV.qo (q_lss rfl (gu hg16 rfl) rfl)) ?_
    refine va rfl rfl rfl (q_pick rfl rfl (pk_or' (g := (decide (1 < ((i9 : Nat) : Int)))) (y := (decide ((gt path i9) < 0))))) ?_
    refine va rfl rfl rfl (q_move (v := .bool ((decide (1 < ((i9 : Nat) : Int))) || (decide ((gt path i9) < 0)))) rfl (by kernel_rfl)) ?_
    refine vg0 rfl rfl rfl rfl rfl (fun hg17 => QV.qo (q_move (v := .int .i64 (gt path i9)) rfl (by kernel_rfl))) ?_
    refine vg0 rfl rfl rfl rfl rfl (fun hg18 => QV.qo (q_gtr rfl (gu hg18 rfl) rfl)) ?_
    refine va rfl rfl rfl (q_pick rfl rfl (pk_or' (g := ((decide (1 < ((i9 : Nat) : Int))) || (decide ((gt path i9) < 0)))) (y := (decide (15 < (gt path i9)))))) ?_
    refine WR.nil ?_
    change WC _ _ _ _ _ _
    refine WC.cif h (by kernel_rfl) (fun hb19 h => ?_) (fun hb19 h => ?_)
    · skip
      refine WC.rs ?_
      have hq20 := gts3 (xs := x4) (hn7)
      refine va rfl rfl rfl (q_ldoa (i := 0) (c := 0) (vs := [.int .i64 (gt x4 0), .int .i64 (gt x4 1), .int .i64 (gt x4 2)]) rfl (Own.all_ (k := .i64) intT_cs rfl ho6) rfl Tryz.isAgg125 Tryz.sizeOf125 rfl (by rw [hq20]; rfl)) ?_
      refine e_st (i := 1) (v := .agg #[.int .i64 (gt x4 0), .int .i64 (gt x4 1), .int .i64 (gt x4 2)]) (new := #[.int .i64 (gt x4 0), .int .i64 (gt x4 1), .int .i64 (gt x4 2)]) rfl Tryz.sizeOf125 rfl rfl rfl rfl (by kernel_rfl) rfl rfl rfl rfl ?_
      refine va rfl rfl rfl (q_assign (v := .bool false) rfl (by kernel_rfl)) ?_
      refine WR.nil ?_
      change WC _ _ _ _ _ _
      refine WC.ret ?_
      intro w hw
      obtain rfl := Option.some.inj h
      subst hF
      exact ⟨[.agg #[.int .i64 (gt x4 0), .int .i64 (gt x4 1), .int .i64 (gt x4 2)], .bool false], (rr_agg (i := 1) (us := [.int .i64 (gt x4 0), .int .i64 (gt x4 1), .int .i64 (gt x4 2)]) hw rfl Tryz.isAgg125 Tryz.sizeOf125 (by kernel_rfl) rfl (rr_tmp (by kernel_rfl) rr_nil)), by kernel_rfl, hw.fr⟩
    · skip
      refine WC.skip ?_
      change WC _ _ _ _ _ _
      refine WC.region ?_
      refine va rfl rfl rfl (q_move (v := .int .i64 ((i9 : Nat) : Int)) rfl (by kernel_rfl)) ?_
      refine va rfl rfl rfl (q_add_r (r := ((i9 + 1 : Nat) : Int)) rfl rfl rfl (ctr_len hl14 hpath.le)) ?_
      refine va rfl rfl rfl (q_move (v := .int .i64 (gt path i9)) rfl (by kernel_rfl)) ?_
      obtain ⟨hk21, h⟩ := chk_some h
      refine va rfl rfl rfl (q_ixan (i := i9 + 1) Tryz.underlying125 Tryz.sizeOf3 rfl rfl rfl (of_decide_eq_true hk21)) ?_
      refine e_store_own (T := intT) (q := i9 + 1) (v := .int .i64 (gt path i9)) (y := (gt path i9)) rfl rfl rfl rfl (by kernel_rfl) Tryz.sizeOf3 (by exact ⟨rfl, (hpath.intT_at hl14).1⟩) (i := 0) rfl ho6 (ltq (of_decide_eq_true hk21) hn7.symm) ?_
      intro row22 ho23
      refine WR.nil ?_
      change WC _ _ _ _ _ _
      refine WC.region ?_
      refine va rfl rfl rfl (q_add_r (r := ((i9 + 1 : Nat) : Int)) rfl rfl rfl (ctr_len hl14 hpath.le)) ?_
      refine va rfl rfl rfl (q_move (v := .int .i64 ((i9 + 1 : Nat) : Int)) rfl (by kernel_rfl)) ?_
      refine WR.nil ?_
      intro w hw
      exact ⟨hl14, (List.set x4 (i9 + 1) (gt path i9)), h, row22, (sl_ (by kernel_rfl)), hw, (List.length_set.trans hn7), ho23, trivial⟩
  · skip
    have h := hge12 (ige hb13)
    refine WC.exit ?_
    change WC _ _ _ _ _ _
    refine WC.rs ?_
    have hq24 := gts3 (xs := x4) (hn7)
    refine va rfl rfl rfl (q_ldoa (i := 0) (c := 0) (vs := [.int .i64 (gt x4 0), .int .i64 (gt x4 1), .int .i64 (gt x4 2)]) rfl (Own.all_ (k := .i64) intT_cs rfl ho6) rfl Tryz.isAgg125 Tryz.sizeOf125 rfl (by rw [hq24]; rfl)) ?_
    refine e_st (i := 1) (v := .agg #[.int .i64 (gt x4 0), .int .i64 (gt x4 1), .int .i64 (gt x4 2)]) (new := #[.int .i64 (gt x4 0), .int .i64 (gt x4 1), .int .i64 (gt x4 2)]) rfl Tryz.sizeOf125 rfl rfl rfl rfl (by kernel_rfl) rfl rfl rfl rfl ?_
    refine va rfl rfl rfl (q_assign (v := .bool true) rfl (by kernel_rfl)) ?_
    refine WR.nil ?_
    change WC _ _ _ _ _ _
    refine WC.ret ?_
    intro w hw
    obtain rfl := Option.some.inj h
    subst hF
    exact ⟨[.agg #[.int .i64 (gt x4 0), .int .i64 (gt x4 1), .int .i64 (gt x4 2)], .bool true], (rr_agg (i := 1) (us := [.int .i64 (gt x4 0), .int .i64 (gt x4 1), .int .i64 (gt x4 2)]) hw rfl Tryz.isAgg125 Tryz.sizeOf125 (by kernel_rfl) rfl (rr_tmp (by kernel_rfl) rr_nil)), by kernel_rfl, hw.fr⟩
end Fw
end Go.Proofs.YtiakfgdgafljnaaGreat
