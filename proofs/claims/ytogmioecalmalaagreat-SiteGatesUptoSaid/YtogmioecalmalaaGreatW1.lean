/- Walks through the functions that the law reaches (printed by a program). No condition. -/
import Derived.Test.YtogmioecalmalaaGreatM
import Derived.Test.YtogmioecalmalaaGreatS
import Derived.Test.YtogmioecalmalaaGreatV35
namespace Go.Proofs.YtogmioecalmalaaGreat
namespace Fw
set_option linter.unusedVariables false
set_option linter.unusedSimpArgs false
set_option linter.unusedSectionVars false
set_option maxRecDepth 100000
set_option maxHeartbeats 400000
open Go.RowKit
open Go.Proofs.Tryz
variable {Γ : Gh} {w0 : World}
def aa.ob (e : TypeId) (Γ : Gh) (g : Nat) (row : Rowb) (x : aa) : Prop := ∃ (m1 : Nat) (r1 : Rowb) (m2 : Nat) (r2 : Rowb) (A3 : Option Addr) (c3 : Nat) (r3 : Rowb), row = ([[(g, .cells #[.int .i64 x.room, .map (some m1), .map (some m2), .slice A3 x.loose.length c3] e (0, 0))], r1, r2, r3] : List Rowb).flatten ∧ I64 x.room ∧ MapO (strK Tryz.underlying9) (slT ar).v Γ r1 m1 x.safe_ ∧ MapO (strK Tryz.underlying9) (slT ar).v Γ r2 m2 x.seen ∧ Own fG Γ 461 r3 A3 c3 x.loose ∧ True
theorem aa.ob.mono {e : TypeId} {Γ Δ : Gh} {g : Nat} {row : Rowb} {x : aa} (h : aa.ob e Γ g row x) (hs : Γ.le Δ) : aa.ob e Δ g row x := by
  obtain ⟨m1, r1, m2, r2, A3, c3, r3, hr, h0, h1, h2, h3, _⟩ := h
  exact ⟨m1, r1, m2, r2, A3, c3, r3, hr, h0, h1.mono hs, h2.mono hs, h3.mono hs, trivial⟩
def bm.ob (e : TypeId) (Γ : Gh) (g : Nat) (row : Rowb) (x : bm) : Prop := ∃ (A1 : Option Addr) (c1 : Nat), row = ([[(g, .cells #[.int .i64 x.room, .slice A1 x.list.length c1] e (0, 0))]] : List Rowb).flatten ∧ I64 x.room ∧ x.list.length ≤ c1 ∧ Sl ne Γ A1 x.list ∧ True
theorem bm.ob.mono {e : TypeId} {Γ Δ : Gh} {g : Nat} {row : Rowb} {x : bm} (h : bm.ob e Γ g row x) (hs : Γ.le Δ) : bm.ob e Δ g row x := by
  obtain ⟨A1, c1, hr, h0, h1, h2, _⟩ := h
  exact ⟨A1, c1, hr, h0, h1, h2.mono hs, trivial⟩
/-- a tree's type, and which of its sums are lent -/
abbrev TG := TypeId × List ((Int × Int × Int) × Nat)
abbrev tg0 (t : TypeId) : TG := (t, [])
def gh.ob (e : TG) (Γ : Gh) (g : Nat) (row : Rowb) (x : gh) : Prop := ∃ (cs : List Value) (rowL : Rowb) (sm : Nat) (rowS : Rowb), row = ([[(g, .cells (cs ++ [Value.map (some sm)]).toArray e.1 (0, 0))], rowL, rowS] : List Rowb).flatten ∧ lu (strK Tryz.underlying9) recT.ag Γ cs rowL x.leaves ∧ x.leaves.length = 256 ∧ Sums Ak 507 e.2 Γ rowS sm x.sums ∧ True
theorem gh.ob.mono {e : TG} {Γ Δ : Gh} {g : Nat} {row : Rowb} {x : gh} (h : gh.ob e Γ g row x) (hs : Γ.le Δ) : gh.ob e Δ g row x := by
  obtain ⟨cs, rowL, sm, rowS, h1, h2, h3, h4, -⟩ := h
  exact ⟨cs, rowL, sm, rowS, h1, h2.mono hs, h3, h4.mono hs, trivial⟩
theorem Ay {l : List ((Int × Int × Int) × Nat)} {n m : Nat} (h : ∀ p ∈ l, p.1.1 ≤ (n : Int)) (hm : m = n + 1) : ∀ p ∈ l, p.1.1 < (m : Int) := fun p hp => by have := h p hp; omega
abbrev mF (gt : Nat) (et : TG) (r : gh × Int) (U : List Rowb) (Γ : Gh) (v : Value) : Prop := ∃ (rowt' : Rowb), v = .int .u64 r.2 ∧ U = [rowt'] ∧ gh.ob et Γ gt rowt' r.1 ∧ U64 r.2 ∧ True
/-- what is asked of whoever tells a place's hash -/
def Az (H : gh → List Int → Option (gh × Int)) : Prop := ∀ {Γ : Gh} {w0 : World} {gt : Nat} {et : TG} {rowt : Rowb} {t : gh} (ht : gh.ob et Γ gt rowt t) {A : Option Addr} {c : Nat} {path : List Int} (hpath : Sl intT Γ A path) (hc : path.length ≤ c) (hlen : ∀ p ∈ et.2, p.1.1 < (path.length : Int)) (hp : Pre [rowt] Γ w0) {r : gh × Int} (h : H t path = some r), Calls Tryz.prog 290 #[.pointer (some ⟨gt, 0, none⟩), .slice A path.length c] w0 (Outc Γ [rowt] w0 (mF gt et r))
def dh.ob (e : TypeId) (Γ : Gh) (g : Nat) (row : Rowb) (x : dh) : Prop := ∃ (A1 : Option Addr) (c1 : Nat) (g2 : Nat) (r2 : Rowb), row = ([[(g, .cells #[.int .i64 x.id, .slice A1 x.vec.length c1, .pointer (some ⟨g2, 0, none⟩)] e (0, 0))], r2] : List Rowb).flatten ∧ I64 x.id ∧ x.vec.length ≤ c1 ∧ Sl intT Γ A1 x.vec ∧ gh.ob (tg0 434) Γ g2 r2 x.tree ∧ True
theorem dh.ob.mono {e : TypeId} {Γ Δ : Gh} {g : Nat} {row : Rowb} {x : dh} (h : dh.ob e Γ g row x) (hs : Γ.le Δ) : dh.ob e Δ g row x := by
  obtain ⟨A1, c1, g2, r2, hr, h0, h1, h2, h3, _⟩ := h
  exact ⟨A1, c1, g2, r2, hr, h0, h1, h2.mono hs, gh.ob.mono h3 hs, trivial⟩
def dh.tob (e : TypeId) : Tob dh := ⟨fun Γ g row x => dh.ob e Γ g row x, fun h hs => h.mono hs⟩
def aq.ob (e : Nat × Nat) (Γ : Gh) (g : Nat) (row : Rowb) (x : aq) : Prop := row = ([[(g, .cells #[.pointer (some ⟨e.2, 0, none⟩), .string x.place_name, .int .i64 x.place_gen, .int .i64 x.size, .int .i64 x.last, .int .i64 x.tail, .int .i64 x.count, .int .i64 x.bytes] e.1 (0, 0))]] : List Rowb).flatten ∧ x.place_name.size ≤ lim ∧ I64 x.place_gen ∧ I64 x.size ∧ I64 x.last ∧ I64 x.tail ∧ I64 x.count ∧ I64 x.bytes ∧ True
theorem aq.ob.mono {e : Nat × Nat} {Γ Δ : Gh} {g : Nat} {row : Rowb} {x : aq} (h : aq.ob e Γ g row x) (hs : Γ.le Δ) : aq.ob e Δ g row x := by
  obtain ⟨hr, h0, h1, h2, h3, h4, h5, h6, _⟩ := h
  exact ⟨hr, h0, h1, h2, h3, h4, h5, h6, trivial⟩
def ay.ob (e : Nat × Nat) (Γ : Gh) (g : Nat) (row : Rowb) (x : ay) : Prop := ∃ (A2 : Option Addr) (c2 : Nat) (A5 : Option Addr) (c5 : Nat) (g6 : Nat) (r6 : Rowb) (A7 : Option Addr) (c7 : Nat) (A8 : Option Addr) (A9 : Option Addr) (c9 : Nat) (r9 : Rowb) (m11 : Nat) (r11 : Rowb) (A12 : Option Addr) (c12 : Nat), row = ([[(g, .cells #[.int .i64 x.c_self, .int .i64 x.c_sites, .slice A2 x.c_links.length c2, .int .i64 x.c_cap, .int .i64 x.c_base, .slice A5 x.c_members.length c5, .pointer (some ⟨g6, 0, none⟩), .slice A7 x.applied.length c7, .pointer A8, .slice A9 x.list.length c9, .int .i64 x.next, .map (some m11), .slice A12 x.members.length c12] e.1 (0, 0))], r6, r9, r11] : List Rowb).flatten ∧ I64 x.c_self ∧ I64 x.c_sites ∧ x.c_links.length ≤ c2 ∧ Sl intT Γ A2 x.c_links ∧ I64 x.c_cap ∧ I64 x.c_base ∧ x.c_members.length ≤ c5 ∧ Sl intT Γ A5 x.c_members ∧ aq.ob (249, e.2) Γ g6 r6 x.log ∧ x.applied.length ≤ c7 ∧ Sl intT Γ A7 x.applied ∧ Pd recT Γ A8 x.under ∧ LM iv il (intK Tryz.underlying3) pQ.v Γ 224 r9 A9 c9 x.list ∧ I64 x.next ∧ MapO (intK Tryz.underlying3) pQ.v Γ r11 m11 x.gaps ∧ x.members.length ≤ c12 ∧ Sl intT Γ A12 x.members ∧ True
theorem ay.ob.mono {e : Nat × Nat} {Γ Δ : Gh} {g : Nat} {row : Rowb} {x : ay} (h : ay.ob e Γ g row x) (hs : Γ.le Δ) : ay.ob e Δ g row x := by
  obtain ⟨A2, c2, A5, c5, g6, r6, A7, c7, A8, A9, c9, r9, m11, r11, A12, c12, hr, h0, h1, h2, h3, h4, h5, h6, h7, h8, h9, h10, h11, h12, h13, h14, h15, h16, _⟩ := h
  exact ⟨A2, c2, A5, c5, g6, r6, A7, c7, A8, A9, c9, r9, m11, r11, A12, c12, hr, h0, h1, h2, h3.mono hs, h4, h5, h6, h7.mono hs, aq.ob.mono h8 hs, h9, h10.mono hs, h11.mono hs, h12.mono hs, h13, h14.mono hs, h15, h16.mono hs, trivial⟩
def au.ob (e : Nat × Nat) (Γ : Gh) (g : Nat) (row : Rowb) (x : au) : Prop := ∃ (A1 : Option Addr) (c1 : Nat) (A3 : Option Addr) (c3 : Nat) (A18 : Option Addr) (c18 : Nat) (g19 : Nat) (r19 : Rowb) (y20 : Value) (y27 : Value), row = ([[(g, .cells #[.int .i64 x.c_sites, .slice A1 x.c_links.length c1, .int .i64 x.c_nodes, .slice A3 x.c_members.length c3, .int .i64 x.c_n, .int .i64 x.c_r, .int .i64 x.c_w, .int .i64 x.c_group, .string x.c_secret, .int .i64 x.c_room, .int .i64 x.c_seg, .int .i64 x.c_cap, .int .i64 x.c_pend, .int .i64 x.c_wait, .int .i64 x.c_timeout, .int .i64 x.c_hintAfter, .int .i64 x.c_base, .int .i64 x.self, .slice A18 x.links.length c18, .pointer (some ⟨g19, 0, none⟩), y20, .int .i64 x.ids, .pointer none, .pointer none, .slice none 0 0, .slice none 0 0, .slice none 0 0, y27, .pointer none, .pointer none, .slice none 0 0, .slice none 0 0] e.1 (0, 0))], r19] : List Rowb).flatten ∧ I64 x.c_sites ∧ x.c_links.length ≤ c1 ∧ Sl bC Γ A1 x.c_links ∧ I64 x.c_nodes ∧ x.c_members.length ≤ c3 ∧ Sl intT Γ A3 x.c_members ∧ I64 x.c_n ∧ I64 x.c_r ∧ I64 x.c_w ∧ I64 x.c_group ∧ x.c_secret.size ≤ lim ∧ I64 x.c_room ∧ I64 x.c_seg ∧ I64 x.c_cap ∧ I64 x.c_pend ∧ I64 x.c_wait ∧ I64 x.c_timeout ∧ I64 x.c_hintAfter ∧ I64 x.c_base ∧ I64 x.self ∧ x.links.length ≤ c18 ∧ Sl intT Γ A18 x.links ∧ ay.ob (154, e.2) Γ g19 r19 x.q ∧ I64 x.ids ∧ True
theorem au.ob.mono {e : Nat × Nat} {Γ Δ : Gh} {g : Nat} {row : Rowb} {x : au} (h : au.ob e Γ g row x) (hs : Γ.le Δ) : au.ob e Δ g row x := by
  obtain ⟨A1, c1, A3, c3, A18, c18, g19, r19, y20, y27, hr, h0, h1, h2, h3, h4, h5, h6, h7, h8, h9, h10, h11, h12, h13, h14, h15, h16, h17, h18, h19, h20, h21, h22, h23, _⟩ := h
  exact ⟨A1, c1, A3, c3, A18, c18, g19, r19, y20, y27, hr, h0, h1, h2.mono hs, h3, h4, h5.mono hs, h6, h7, h8, h9, h10, h11, h12, h13, h14, h15, h16, h17, h18, h19, h20, h21.mono hs, ay.ob.mono h22 hs, h23, trivial⟩
abbrev ak.ob (J : Gh → Rowb → ak → Prop) (Γ : Gh) (g : Nat) (row : Rowb) (x : ak) : Prop := YS.ob J Γ g row x
theorem ak.ob.mono {J : Gh → Rowb → ak → Prop} {Γ Δ : Gh} {g : Nat} {row : Rowb} {x : ak} (h : ak.ob J Γ g row x) (hs : Γ.le Δ) : ak.ob J Δ g row x := YS.ob.mono h hs
abbrev ae.ob (J : Gh → Rowb → ae → Prop) (Γ : Gh) (g : Nat) (row : Rowb) (x : ae) : Prop := YS.ob J Γ g row x
theorem ae.ob.mono {J : Gh → Rowb → ae → Prop} {Γ Δ : Gh} {g : Nat} {row : Rowb} {x : ae} (h : ae.ob J Γ g row x) (hs : Γ.le Δ) : ae.ob J Δ g row x := YS.ob.mono h hs
def af.ob (e : TypeId) (Γ : Gh) (g : Nat) (row : Rowb) (x : af) : Prop := ∃ (A0 : Option Addr) (c0 : Nat), row = ([[(g, .cells #[.slice A0 x.b.length c0, .int .i64 x.at_, .bool x.bad] e (0, 0))]] : List Rowb).flatten ∧ x.b.length ≤ c0 ∧ Sl ar Γ A0 x.b ∧ I64 x.at_ ∧ True
theorem af.ob.mono {e : TypeId} {Γ Δ : Gh} {g : Nat} {row : Rowb} {x : af} (h : af.ob e Γ g row x) (hs : Γ.le Δ) : af.ob e Δ g row x := by
  obtain ⟨A0, c0, hr, h0, h1, h2, _⟩ := h
  exact ⟨A0, c0, hr, h0, h1.mono hs, h2, trivial⟩
def ac.ob (e : TypeId) (Γ : Gh) (g : Nat) (row : Rowb) (x : ac) : Prop := ∃ (A0 : Option Addr) (c0 : Nat), row = ([[(g, .cells #[.slice A0 x.b.length c0, .int .i64 x.at_] e (0, 0))]] : List Rowb).flatten ∧ x.b.length ≤ c0 ∧ Sl ar Γ A0 x.b ∧ I64 x.at_ ∧ True
theorem ac.ob.mono {e : TypeId} {Γ Δ : Gh} {g : Nat} {row : Rowb} {x : ac} (h : ac.ob e Γ g row x) (hs : Γ.le Δ) : ac.ob e Δ g row x := by
  obtain ⟨A0, c0, hr, h0, h1, h2, _⟩ := h
  exact ⟨A0, c0, hr, h0, h1.mono hs, h2, trivial⟩
theorem ll {Γ : Gh} {w0 : World} (hs : Sat Γ w0) {r : Bool} (h : eH = some r) : Calls Tryz.prog 10 #[] w0 (fun e w' => e = .returned (.bool r) ∧ Fr no w0 w') := by
  cases h
  exact tf hs
abbrev l7 (r : aC) (U : List Rowb) (Γ : Gh) (v : Value) : Prop := ∃ (A0_1 : Option Addr), ∃ (c0_1 : Nat), ∃ (A0_3 : Option Addr), ∃ (c0_3 : Nat), v = .agg #[.int .i64 r.sites, .slice A0_1 r.links.length c0_1, .int .i64 r.nodes, .slice A0_3 r.members.length c0_3, .int .i64 r.n, .int .i64 r.r, .int .i64 r.w_, .int .i64 r.group, .string r.secret, .int .i64 r.room, .int .i64 r.seg, .int .i64 r.cap, .int .i64 r.pend, .int .i64 r.wait, .int .i64 r.timeout, .int .i64 r.hintAfter, .int .i64 r.base] ∧ U = [] ∧ aC.fits Γ A0_1 c0_1 A0_3 c0_3 r ∧ True
theorem kZ (sites : Int) (hsites : I64 sites) (hp : Pre [] Γ w0) {r : aC} (h : eG sites = some r) : Calls Tryz.prog 12 #[ii sites] w0 (Outc Γ [] w0 (l7 r)) := by
 refine lm (N := 23) (rs := [.cell 2 25]) (args := [ii sites]) func12 rfl ntmps12 results12 rfl ?_
 obtain ⟨F, hF⟩ : ∃ F : Fm, F = ⟨ids [], w0, Γ⟩ := ⟨_, rfl⟩
 refine WC.here (C := CC F Γ []) ?_ (hF ▸ hp.start)
 refine WC.rs ?_
 refine alV zeroValue25 fun g1 => ?_
 refine WR.done (WC.rs (mV (k:=?_)))
 refine bsV #[ii 1, ii 2, ii 3] 3 fun g2 => ?_
 refine sV (bh (v := .agg #[ii sites, .slice none 0 0, ii 3, .slice (some ⟨g2, 0, none⟩) 3 3, ii 3, ii 2, ii 2, ii 0, .string (⟨#[115]⟩ : ByteArray), ii 16777216, ii 4096, ii 100, ii 100, ii 100, ii 5, ii 2, ii 0]) rfl (yi rfl rfl rfl rfl rfl rfl rfl rfl rfl rfl rfl rfl rfl rfl) (fun w => by kernel_rfl)) (k:=?_)
 refine alV zeroValue25 fun g3 => ?_
 refine stV 0 (.agg #[ii sites, .slice none 0 0, ii 3, .slice (some ⟨g2, 0, none⟩) 3 3, ii 3, ii 2, ii 2, ii 0, .string (⟨#[115]⟩ : ByteArray), ii 16777216, ii 4096, ii 100, ii 100, ii 100, ii 5, ii 2, ii 0]) #[ii sites, .slice none 0 0, ii 3, .slice (some ⟨g2, 0, none⟩) 3 3, ii 3, ii 2, ii 2, ii 0, .string (⟨#[115]⟩ : ByteArray), ii 16777216, ii 4096, ii 100, ii 100, ii 100, ii 5, ii 2, ii 0] sizeOf25 (k:=WR.done (WC.seq (WC.rs (aV (k:=WR.done (WC.block ?_))))))
 refine WC.loopN h (fun (s : Int × (List al)) σ w => match s with | (i_4, x6) => ∃ (A7 : Option Addr), ∃ (c8 : Nat), ∃ (row9 : Rowb), slots σ [(0, ii sites), (2, (pq g1)), (3, (pq g3)), (4, ii i_4)] ∧ CC F Γ [row9, [(g3, .cells #[ii sites, .slice A7 x6.length c8, ii 3, .slice (some ⟨g2, 0, none⟩) 3 3, ii 3, ii 2, ii 2, ii 0, .string (⟨#[115]⟩ : ByteArray), ii 16777216, ii 4096, ii 100, ii 100, ii 100, ii 5, ii 2, ii 0] 25 (0, 0))], [(g2, .cells #[ii 1, ii 2, ii 3] 3 (0, 0))], [(g1, .cells #[ii 0, .slice none 0 0, ii 0, .slice none 0 0, ii 0, ii 0, ii 0, ii 0, .string ByteArray.empty, ii 0, ii 0, ii 0, ii 0, ii 0, ii 0, ii 0, ii 0] 25 (0, 0))]] w ∧ I64 i_4 ∧ Own bC Γ 81 row9 A7 c8 x6 ∧ True) ?_ ?_
 ·
  intro w hw
  have hw := hw.pad
  exact ⟨none, 0, [], slK, hw, iV, (Own.nil bC _ 81), trivial⟩
 rintro f11 ⟨i_4, x6⟩ σ w h ⟨A7, c8, row9, hsl, hw, hr5, ho10, -⟩
 refine slV hsl hw [_, _, _, _] ?_; clear hw hsl
 refine WC.seq (WC.rs (mV (k:=mV (k:=sV aI (k:=WR.done ?_)))))
 refine ciV h (fun hb15 h => ?_) (fun hb15 h => ?_)
 ·
  refine WC.skip (wc_ (WC.seq (WC.block ?_)))
  refine WC.region ?_
  refine sV (q_fl 1 eu) (k:=sV (ldV 1 isAgg22) (k:=mV (k:=mV (k:=sV cK (k:=sV (bh (v := .agg #[ii i_4, ii (w64 (i_4 + 1))]) rfl (jB rfl rfl) (fun w => by kernel_rfl)) (k:=?_))))))
  refine bsV #[ii i_4, ii (w64 (i_4 + 1))] 81 fun g16 => ?_
  obtain ⟨hk17, h⟩ := ah h
  refine apV 1 [(⟨i_4, (w64 (i_4 + 1))⟩ : al)] tK ho10 (of_decide_eq_true hk17) (fun w hw => bw (i := 0) rfl (by exact ⟨rfl, ⟨hr5, (dL _)⟩⟩) hw) ?_
  intro row18 A19 c20 ho21
  refine sV (q_fl 1 eu) (k:=stV 2 (.slice A19 (x6 ++ [(⟨i_4, (w64 (i_4 + 1))⟩ : al)]).length c20) #[ii sites, .slice A19 (x6 ++ [(⟨i_4, (w64 (i_4 + 1))⟩ : al)]).length c20, ii 3, .slice (some ⟨g2, 0, none⟩) 3 3, ii 3, ii 2, ii 2, ii 0, .string (⟨#[115]⟩ : ByteArray), ii 16777216, ii 4096, ii 100, ii 100, ii 100, ii 5, ii 2, ii 0] sizeOf22 (k:=?_))
  refine WR.nil ?_
  change WC _ _ _ _ _ _
  refine WC.region ?_
  refine mV (k:=sV cK (k:=aV (k:=?_)))
  refine WR.nil ?_
  intro w hw
  exact ⟨((w64 (i_4 + 1)), (x6 ++ [(⟨i_4, (w64 (i_4 + 1))⟩ : al)])), h, A19, c20, row18, slK, (hw.on [1, 1, 1, 1]), (dL _), ho21, trivial⟩
 refine WC.exit ?_
 change WC _ _ _ _ _ _
 refine WC.rs (sV (ldaV 1 [ii sites, .slice A7 x6.length c8, ii 3, .slice (some ⟨g2, 0, none⟩) 3 3, ii 3, ii 2, ii 2, ii 0, .string (⟨#[115]⟩ : ByteArray), ii 16777216, ii 4096, ii 100, ii 100, ii 100, ii 5, ii 2, ii 0] isAgg25 sizeOf25) (k:=stV 3 (.agg #[ii sites, .slice A7 x6.length c8, ii 3, .slice (some ⟨g2, 0, none⟩) 3 3, ii 3, ii 2, ii 2, ii 0, .string (⟨#[115]⟩ : ByteArray), ii 16777216, ii 4096, ii 100, ii 100, ii 100, ii 5, ii 2, ii 0]) #[ii sites, .slice A7 x6.length c8, ii 3, .slice (some ⟨g2, 0, none⟩) 3 3, ii 3, ii 2, ii 2, ii 0, .string (⟨#[115]⟩ : ByteArray), ii 16777216, ii 4096, ii 100, ii 100, ii 100, ii 5, ii 2, ii 0] sizeOf25 (k:=WR.done ?_)))
 refine WC.ret ?_
 intro w hw
 have hc26 := ho10.capz
 obtain ⟨Γ22, hw, hl23, hr24⟩ := hw.seal (i := 0) rfl; have hs25 := ho10.sl hl23 hr24
 have ho27 : Own intT Γ22 3 [(g2, .cells #[ii 1, ii 2, ii 3] 3 (0, 0))] (some ⟨g2, 0, none⟩) 3 [1, 2, 3] := Own.of_blockL (T := intT) (ys := [1, 2, 3]) [[ii 1], [ii 2], [ii 3]] rfl (show 3 ≤ lim by decide) ⟨⟨rfl, iV⟩, ⟨rfl, iV⟩, ⟨rfl, iV⟩, trivial⟩
 have hc32 := ho27.capz
 obtain ⟨Γ28, hw, hl29, hr30⟩ := hw.seal (i := 2) rfl; have hs31 := ho27.sl hl29 hr30
 obtain rfl := Option.some.inj h
 subst hF
 exact ⟨[.agg #[ii sites, .slice A7 x6.length c8, ii 3, .slice (some ⟨g2, 0, none⟩) [1, 2, 3].length 3, ii 3, ii 2, ii 2, ii 0, .string (⟨#[115]⟩ : ByteArray), ii 16777216, ii 4096, ii 100, ii 100, ii 100, ii 5, ii 2, ii 0]], (tq (i := 3) (us := [ii sites, .slice A7 x6.length c8, ii 3, .slice (some ⟨g2, 0, none⟩) [1, 2, 3].length 3, ii 3, ii 2, ii 2, ii 0, .string (⟨#[115]⟩ : ByteArray), ii 16777216, ii 4096, ii 100, ii 100, ii 100, ii 5, ii 2, ii 0]) hw rfl isAgg25 sizeOf25 (by kernel_rfl) rfl n4), bO (is := []) (by kernel_rfl) hw rfl ⟨A7, c8, (some ⟨g2, 0, none⟩), 3, rfl, rfl, ⟨hsites, ⟨hc26, (hs25.mono hl29)⟩, iV, ⟨hc32, hs31⟩, iV, iV, iV, iV, (show (⟨#[115]⟩ : ByteArray).size ≤ lim by decide), iV, iV, iV, iV, iV, iV, iV, iV⟩, trivial⟩⟩
abbrev tB (r : aa) (U : List Rowb) (Γ : Gh) (v : Value) : Prop := ∃ (g0 : Nat), ∃ (row0 : Rowb), v = .pointer (some ⟨g0, 0, none⟩) ∧ U = [row0] ∧ aa.ob 105 Γ g0 row0 r ∧ True
theorem sQ (room : Int) (hroom : I64 room) (hp : Pre [] Γ w0) {r : aa} (h : l6 room = some r) : Calls Tryz.prog 8 #[ii room] w0 (Outc Γ [] w0 (tB r)) := by
 refine goV [2] func8 ntmps8 results8 hp fun F hF => ?_
 refine WC.rs (aV (k:=WR.done (WC.rs (mV (k:=sV tF (k:=sV Am (k:=?_)))))))
 refine gC (strK underlying9) (slT ar).v rfl rfl rfl rfl ?_
 intro g1 row2 hm3
 refine gC (strK underlying9) (slT ar).v rfl rfl rfl rfl ?_
 intro g4 row5 hm6
 refine sV (bh (v := .agg #[ii (min (max room 0) 1073741824), .map (some g1), .map (some g4), .slice none 0 0]) rfl (wT rfl rfl rfl) (fun w => by kernel_rfl)) (k:=?_)
 refine bxV (v := .agg #[ii (min (max room 0) 1073741824), .map (some g1), .map (some g4), .slice none 0 0]) fun g7 => ?_
 refine aV (k:=WR.done ?_)
 refine WC.ret ?_
 intro w hw
 have hw := hw.pad
 obtain ⟨row_8, hrow_8, hob_8⟩ : ∃ rw : Rowb, rw = ([[(g7, .cells #[ii (min (max room 0) 1073741824), .map (some g1), .map (some g4), .slice none 0 0] 105 (0, 0))], row2, row5, []] : List Rowb).flatten ∧ aa.ob 105 Γ g7 rw (⟨(min (max room 0) 1073741824), ([] : List (ByteArray × (List UInt8))), ([] : List (ByteArray × (List UInt8))), []⟩ : aa) := ⟨_, rfl, g1, row2, g4, row5, none, 0, [], rfl, (zM (wO hroom iV) iV), hm3, hm6, (Own.nil fG Γ 461), trivial⟩
 have hw := hw.fold (is := [1, 2, 1, 0]) rfl hrow_8
 obtain rfl := Option.some.inj h
 subst hF
 exact bO (is := [0]) (by kernel_rfl) hw rfl ⟨g7, row_8, rfl, rfl, hob_8, trivial⟩
theorem gW {As_ : Option Addr} {cs_ : Nat} {s_ : List al} (hs_ : Sl bC Γ As_ s_) (hs_c : s_.length ≤ cs_) (v_0 : Int) (hv_0 : I64 v_0) (v_1 : Int) (hv_1 : I64 v_1) (hs : Sat Γ w0) {r : Int} (h : dR s_ v_0 v_1 = some r) : CQ Tryz.prog 72 #[.slice As_ s_.length cs_, .agg #[ii v_0, ii v_1]] w0 (ii r) := by
 refine goQ [4] func72 ntmps72 results72 hs fun F hF => ?_
 refine WC.rs ?_
 refine bxV (v := .agg #[ii v_0, ii v_1]) fun g1 => ?_
 refine aV (k:=WR.done (WC.seq (WC.rs (mV (k:=sV (ai rfl underlying22) (k:=mV (k:=WR.done ?_)))))))
 refine WC.block ?_
 refine WC.forI h (fun (i3 : Nat) (s : Unit) σ w => match s with | () => slots σ [(0, .slice As_ s_.length cs_), (3, (pq g1)), (7, ii (s_.length : Int)), (8, ii (i3 : Int))] ∧ CC F Γ [[(g1, .cells #[ii v_0, ii v_1] 81 (0, 0))]] w ∧ True) ?_ ?_
 ·
  intro w hw
  exact ⟨slK, hw, trivial⟩
 rintro f2 i3 ⟨⟩ σ w hi4 hlt5 hge6 ⟨hsl, hw, -⟩
 refine slV hsl hw [_] ?_; clear hw hsl
 refine WC.rs (sV aI (k:=WR.done (WC.seq ?_)))
 refine coV (fun hb7 => ?_) (fun hb7 => ?_)
 ·
  have hl8 := ilt hb7
  have h := hlt5 hl8
  refine WC.skip (wc_ (WC.seq (WC.block (WC.rs (mV (k:=aV (k:=WR.done ?_)))))))
  refine WC.seq ?_
  refine drV ?_
  refine zV (ldaV 0 [ii v_0, ii v_1] isAgg81 sizeOf81) (k:=zV moV (k:=zV moV (k:=zV (bB (i := i3) underlying22 sizeOf81 rfl rfl rfl hl8 (hs_.some_ hl8)) (k:=zV (tT (c := 0) (vs := (al.cs (gt s_ i3))) (hs_.dapi_arr2T_at hl8).2 rfl isAgg81 sizeOf81 rfl rfl rfl) (k:=zV (nV (a := (⟨v_0, v_1⟩ : al)) (b := (gt s_ i3)) rfl rfl rfl) (k:=?_))))))
  refine WQ.nil ?_
  change WC _ _ _ _ _ _
  refine ciV h (fun hb9 h => ?_) (fun hb9 h => ?_)
  ·
   refine WC.rs (mV (k:=aV (k:=WR.done ?_)))
   exact WC.ret fun w hw => rq_ r h hF hw
  refine WC.skip (wc_ ?_)
  refine WC.region ?_
  refine sV (aK rfl rfl rfl (bx hl8 hs_.le)) (k:=mV (k:=?_))
  refine WR.nil ?_
  intro w hw
  exact ⟨hl8, (), h, slK, hw, trivial⟩
 have h := hge6 (ige hb7)
 refine WC.exit ?_
 change WC _ _ _ _ _ _
 refine WC.rs (aV (k:=WR.done ?_))
 exact WC.ret fun w hw => rq_ r h hF hw
theorem fK {As_ : Option Addr} {cs_ : Nat} {s_ : List al} (hs_ : Sl bC Γ As_ s_) (hs_c : s_.length ≤ cs_) (v_0 : Int) (hv_0 : I64 v_0) (v_1 : Int) (hv_1 : I64 v_1) (hs : Sat Γ w0) {r : Bool} (h : dk s_ v_0 v_1 = some r) : CQ Tryz.prog 33 #[.slice As_ s_.length cs_, .agg #[ii v_0, ii v_1]] w0 (.bool r) := by
 refine goQ [4] func33 ntmps33 results33 hs fun F hF => ?_
 refine WC.rs ?_
 refine bxV (v := .agg #[ii v_0, ii v_1]) fun g1 => ?_
 refine aV (k:=WR.done (WC.rs (mV (k:=sV (ldaV 0 [ii v_0, ii v_1] isAgg81 sizeOf81) (k:=?_)))))
 obtain ⟨z2, hz3, h⟩ := bnd h
 refine vqV (caV call72) (fun w hw => gW (Γ := Gh.all w) (hs_.mono hw.sat.le_all) hs_c v_0 hv_0 v_1 hv_1 (Sat.all w) hz3) (k:=sV bX (k:=aV (k:=WR.done ?_)))
 exact WC.ret fun w hw => rq_ r h hF hw
theorem lP {Amembers : Option Addr} {cmembers : Nat} {members : List Int} (hmembers : Sl intT Γ Amembers members) (hmembersc : members.length ≤ cmembers) (hs : Sat Γ w0) {r : Bool} (h : j8 members = some r) : CQ Tryz.prog 34 #[.slice Amembers members.length cmembers] w0 (.bool r) := by
 refine goQ [2] func34 ntmps34 results34 hs fun F hF => ?_
 refine WC.rs (aV (k:=WR.done (WC.seq (WC.rs (mV (k:=sV (ai rfl underlying23) (k:=mV (k:=?_))))))))
 refine WR.done (WC.block ?_)
 refine WC.forI h (fun (i2 : Nat) (s : Unit) σ w => match s with | () => slots σ [(0, .slice Amembers members.length cmembers), (5, .slice Amembers members.length cmembers), (6, ii (members.length : Int)), (7, ii (i2 : Int))] ∧ CC F Γ [] w ∧ True) ?_ ?_
 ·
  intro w hw
  exact ⟨slK, hw, trivial⟩
 rintro f1 i2 ⟨⟩ σ w hi3 hlt4 hge5 ⟨hsl, hw, -⟩
 refine slV hsl hw [] ?_; clear hw hsl
 refine WC.rs (sV aI (k:=WR.done (WC.seq ?_)))
 refine coV (fun hb6 => ?_) (fun hb6 => ?_)
 ·
  have hl7 := ilt hb6
  have h := hlt4 hl7
  refine WC.skip (wc_ (WC.seq (WC.block (WC.rs (mV (k:=sV (bB (i := i2) underlying23 sizeOf3 rfl rfl rfl hl7 (hmembers.some_ hl7)) (k:=sV (q_ld (c := 0) (v := ii (gt members i2)) (hmembers.intT_at hl7).2 rfl isAgg3 rfl rfl) (k:=?_))))))))
  refine aV (k:=aV (k:=WR.done (WC.rs (mV (k:=sV aI (k:=mV (k:=vG0 (h:=fun hg8 => moV) (k:=?_))))))))
  refine vG0 (h:=fun hg9 => bJ rfl (grV hg9)) (k:=sV pkO (k:=mV (k:=vG0 (h:=fun hg10 => moV) (k:=vG0 (h:=fun hg11 => bJ rfl (grV hg11)) (k:=vG0 (h:=fun hg12 => cI (v := .bool (decide (0 < (i2 : Int)))) rfl (grV hg12)) (k:=vh1 (c0 := (!((decide ((gt members i2) < 1)) || (decide (8 < (gt members i2)))))) (g := (decide (0 < (i2 : Int)))) rfl rfl rfl rfl rfl (fun _ => QV.qo moV) (vh1 (c0 := (!((decide ((gt members i2) < 1)) || (decide (8 < (gt members i2)))))) (g := (decide (0 < (i2 : Int)))) rfl rfl rfl rfl rfl (fun _ => QV.qo moV) ?_)))))))
  refine vh1 (c0 := (!((decide ((gt members i2) < 1)) || (decide (8 < (gt members i2)))))) (g := (decide (0 < (i2 : Int)))) rfl rfl rfl rfl rfl (fun _ => QV.qo moV) (vh1 (c0 := (!((decide ((gt members i2) < 1)) || (decide (8 < (gt members i2)))))) (g := (decide (0 < (i2 : Int)))) rfl rfl rfl rfl rfl (fun hg16 => QV.qo (eI rfl (grV hg16))) ?_)
  obtain ⟨hk18, h⟩ := ah h
  refine vh1 (c0 := (!((decide ((gt members i2) < 1)) || (decide (8 < (gt members i2)))))) (g := (decide (0 < (i2 : Int)))) rfl rfl rfl rfl rfl (fun hg17 => QV.qo (q_ix underlying23 sizeOf3 rfl (grV hg17) (grV hg17) (bK hk18 hg17) (hmembers.some_ (cw (bK hk18 hg17))))) (vh1 (c0 := (!((decide ((gt members i2) < 1)) || (decide (8 < (gt members i2)))))) (g := (decide (0 < (i2 : Int)))) rfl rfl rfl rfl rfl (fun hg19 => QV.qo (q_ld (c := 0) (v := ii (gt members ((w64 ((i2 : Int) - 1)).toNat))) (hmembers.intT_at (cw (bK hk18 hg19))).2 rfl isAgg3 (grV hg19) rfl)) (vh1 (c0 := (!((decide ((gt members i2) < 1)) || (decide (8 < (gt members i2)))))) (g := (decide (0 < (i2 : Int)))) rfl rfl rfl rfl rfl (fun hg20 => QV.qo (dc rfl (grV hg20) (grV hg20))) (vG0 (h:=fun hg21 => fU rfl (grV hg21) (mJ (c := (!((decide ((gt members i2) < 1)) || (decide (8 < (gt members i2)))))) (g := (decide (0 < (i2 : Int)))) (y := (decide ((gt members i2) ≤ (gt members ((w64 ((i2 : Int) - 1)).toNat))))) hg21)) (k:=sV pkO (k:=WR.done ?_)))))
  refine ciV h (fun hb22 h => ?_) (fun hb22 h => ?_)
  ·
   refine WC.rs (aV (k:=WR.done ?_))
   exact WC.ret fun w hw => rq_ r h hF hw
  refine WC.skip (wc_ ?_)
  refine WC.region ?_
  refine sV (aK rfl rfl rfl (bx hl7 hmembers.le)) (k:=mV (k:=?_))
  refine WR.nil ?_
  intro w hw
  exact ⟨hl7, (), h, slK, hw, trivial⟩
 have h := hge5 (ige hb6)
 refine WC.exit ?_
 change WC _ _ _ _ _ _
 refine WC.rs (mV (k:=sV (ai rfl underlying23) (k:=sV bJ (k:=aV (k:=WR.done ?_)))))
 exact WC.ret fun w hw => rq_ r h hF hw
theorem qK {Ac_1 : Option Addr} {cc_1 : Nat} {Ac_3 : Option Addr} {cc_3 : Nat} (c_ : aC) (hc_ : aC.fits Γ Ac_1 cc_1 Ac_3 cc_3 c_) (hs : Sat Γ w0) {r : Bool} (h : mr c_ = some r) : CQ Tryz.prog 11 #[.agg (aC.cs Ac_1 cc_1 Ac_3 cc_3 c_).toArray] w0 (.bool r) := by
 refine goQ [2] func11 ntmps11 results11 hs fun F hF => ?_
 refine WC.rs ?_
 refine bxV (v := .agg (aC.cs Ac_1 cc_1 Ac_3 cc_3 c_).toArray) fun g1 => ?_
 refine aV (k:=WR.done (WC.seq (WC.rs (sV (q_fl 1 eu) (k:=sV (ldV 0 isAgg22) (k:=sV (ai rfl underlying22) (k:=mV (k:=?_))))))))
 refine WR.done (WC.block ?_)
 refine WC.forI h (fun (i3 : Nat) (s : Unit) σ w => match s with | () => slots σ [(1, (pq g1)), (6, .slice Ac_1 c_.links.length cc_1), (7, ii (c_.links.length : Int)), (8, ii (i3 : Int))] ∧ CC F Γ [[(g1, .cells (aC.cs Ac_1 cc_1 Ac_3 cc_3 c_).toArray 25 (0, 0))]] w ∧ True) ?_ ?_
 ·
  intro w hw
  exact ⟨slK, hw, trivial⟩
 rintro f2 i3 ⟨⟩ σ w hi4 hlt5 hge6 ⟨hsl, hw, -⟩
 refine slV hsl hw [_] ?_; clear hw hsl
 refine WC.rs (sV aI (k:=WR.done (WC.seq ?_)))
 refine coV (fun hb7 => ?_) (fun hb7 => ?_)
 ·
  have hl8 := ilt hb7
  have h := hlt5 hl8
  refine WC.skip (wc_ (WC.seq (WC.block (WC.rs (mV (k:=sV (bB (i := i3) underlying22 sizeOf81 rfl rfl rfl hl8 (hc_.2.1.2.some_ hl8)) (k:=sV (tT (c := 0) (vs := (al.cs (gt c_.links i3))) (hc_.2.1.2.dapi_arr2T_at hl8).2 rfl isAgg81 sizeOf81 rfl rfl rfl) (k:=?_))))))))
  refine alV zeroValue81 fun g9 => ?_
  refine aV (k:=stV 0 (.agg (al.cs (gt c_.links i3)).toArray) (al.cs (gt c_.links i3)).toArray sizeOf81 (k:=WR.done (WC.seq ?_)))
  refine drV ?_
  refine zV (eV (0) underlying81 sizeOf3 rfl rfl rfl rfl rfl) (k:=zV (ldV 0 isAgg3) (k:=zV aI (k:=zV moV (k:=wG0 (h:=fun hg10 => eV (0) underlying81 sizeOf3 rfl rfl rfl rfl rfl) (k:=wG0 (h:=fun hg11 => ldV 0 isAgg3 (hx:=grV hg11)) (k:=wG0 (h:=fun hg12 => eV (1) underlying81 sizeOf3 rfl rfl rfl rfl rfl) (k:=wG0 (h:=fun hg13 => ldV 0 isAgg3 (hx:=grV hg13)) (k:=?_))))))))
  refine wG0 (h:=fun hg14 => bX rfl (grV hg14) (grV hg14)) (k:=zV pkO (k:=zV moV (k:=wG0 (h:=fun hg15 => eV (1) underlying81 sizeOf3 rfl rfl rfl rfl rfl) (k:=wG0 (h:=fun hg16 => ldV 0 isAgg3 (hx:=grV hg16)) (k:=wG0 (h:=fun hg17 => q_fl 0 iU) (k:=wG0 (h:=fun hg18 => ldV 1 isAgg3 (hx:=grV hg18)) (k:=wG0 (h:=fun hg19 => bJ rfl (grV hg19) (grV hg19)) (k:=?_))))))))
  refine zV pkO (k:=zV moV (k:=wG0 (h:=fun hg20 => q_fl 1 eu) (k:=wG0 (h:=fun hg21 => ldV 1 isAgg22 (hx:=grV hg21)) (k:=wG0 (h:=fun hg22 => moV) (k:=wG0 (h:=fun hg23 => iA (c := cc_1) (hi := i3) (xs := c_.links) underlying22 sizeOf81 rfl (grV hg23) (grV hg23) (Nat.le_of_lt hl8) hc_.2.1.1) (k:=wG0 (h:=fun hg24 => ldaV 0 (al.cs (gt c_.links i3)) isAgg81 sizeOf81) (k:=?_)))))))
  obtain ⟨z26, hz27, h⟩ := bnd h
  refine wC0 (h:=fun hg25 => dU (ew call33 rfl rfl (u7 (grV hg25) (grV hg25))) (fun w hw => fK (Γ := Gh.all w) ((hc_.2.1.2.cut_to (hi := i3) (Nat.le_of_lt hl8)).mono hw.sat.le_all) (eY hc_.2.1.1 i3) ((gt c_.links i3).a0) (hc_.2.1.2.dapi_arr2T_at hl8).1.1 ((gt c_.links i3).a1) (hc_.2.1.2.dapi_arr2T_at hl8).1.2 (Sat.all w) (nv hz27 hg25))) (k:=zV pkO (k:=?_))
  refine WQ.nil ?_
  change WC _ _ _ _ _ _
  refine ciV h (fun hb28 h => ?_) (fun hb28 h => ?_)
  ·
   refine WC.rs (aV (k:=WR.done ?_))
   exact WC.ret fun w hw => rq_ r h hF hw
  refine WC.skip (wc_ ?_)
  refine WC.region ?_
  refine sV (aK rfl rfl rfl (bx hl8 hc_.2.1.2.le)) (k:=mV (k:=?_))
  refine WR.nil ?_
  intro w hw
  exact ⟨hl8, (), h, slK, (hw.on [1]), trivial⟩
 have h := hge6 (ige hb7)
 refine WC.exit ?_
 change WC _ _ _ _ _ _
 refine WC.seq ?_
 refine drV ?_
 refine zV (q_fl 0 iU) (k:=zV (ldV 0 isAgg3) (k:=zV bX (k:=zV moV (k:=wG1 (h:=fun hg29 => q_fl 0 iU) (k:=wG1 (h:=fun hg30 => ldV 0 isAgg3 (hx:=grV hg30)) (k:=wG1 (h:=fun hg31 => dc rfl (grV hg31)) (k:=zV pkA (k:=?_))))))))
 refine zV moV (k:=wG1 (h:=fun hg32 => q_fl 2 oV) (k:=wG1 (h:=fun hg33 => ldV 0 isAgg3 (hx:=grV hg33)) (k:=wG1 (h:=fun hg34 => bX rfl (grV hg34)) (k:=zV pkA (k:=zV moV (k:=wG1 (h:=fun hg35 => q_fl 2 oV) (k:=wG1 (h:=fun hg36 => ldV 0 isAgg3 (hx:=grV hg36)) (k:=?_))))))))
 refine wG1 (h:=fun hg37 => dc rfl (grV hg37)) (k:=zV pkA (k:=zV moV (k:=wG1 (h:=fun hg38 => q_fl 3 ey) (k:=wG1 (h:=fun hg39 => ldV 0 isAgg23 (hx:=grV hg39)) (k:=?_)))))
 obtain ⟨z41, hz42, h⟩ := bnd h
 refine wC1 (h:=fun hg40 => dU (ew call34 rfl rfl (nh (grV hg40))) (fun w hw => lP (Γ := Gh.all w) (hc_.2.2.2.1.2.mono hw.sat.le_all) hc_.2.2.2.1.1 (Sat.all w) (nv hz42 hg40))) (k:=zV pkA (k:=zV moV (k:=wG1 (h:=fun hg43 => q_fl 3 ey) (k:=wG1 (h:=fun hg44 => ldV 0 isAgg23 (hx:=grV hg44)) (k:=wG1 (h:=fun hg45 => q_fl 3 ey) (k:=wG1 (h:=fun hg46 => ldV 0 isAgg23 (hx:=grV hg46)) (k:=wG1 (h:=fun hg47 => ai rfl underlying23 (grV hg47)) (k:=?_))))))))
 refine wG1 (h:=fun hg48 => eI rfl (grV hg48)) (k:=?_)
 obtain ⟨hk50, h⟩ := ah h
 refine wG1 (h:=fun hg49 => q_ix underlying23 sizeOf3 rfl (grV hg49) (grV hg49) (bK hk50 hg49) (hc_.2.2.2.1.2.some_ (cw (bK hk50 hg49)))) (k:=wG1 (h:=fun hg51 => q_ld (c := 0) (v := ii (gt c_.members ((w64 ((c_.members.length : Int) - 1)).toNat))) (hc_.2.2.2.1.2.intT_at (cw (bK hk50 hg51))).2 rfl isAgg3 (grV hg51) rfl) (k:=wG1 (h:=fun hg52 => q_fl 2 oV) (k:=wG1 (h:=fun hg53 => ldV 0 isAgg3 (hx:=grV hg53)) (k:=wG1 (h:=fun hg54 => dc rfl (grV hg54) (grV hg54)) (k:=zV pkA (k:=zV moV (k:=wG1 (h:=fun hg55 => q_fl 4 kc) (k:=?_))))))))
 refine wG1 (h:=fun hg56 => ldV 0 isAgg3 (hx:=grV hg56)) (k:=wG1 (h:=fun hg57 => bX rfl (grV hg57)) (k:=zV pkA (k:=zV moV (k:=wG1 (h:=fun hg58 => q_fl 4 kc) (k:=wG1 (h:=fun hg59 => ldV 0 isAgg3 (hx:=grV hg59)) (k:=wG1 (h:=fun hg60 => q_fl 3 ey) (k:=wG1 (h:=fun hg61 => ldV 0 isAgg23 (hx:=grV hg61)) (k:=?_))))))))
 refine wG1 (h:=fun hg62 => ai rfl underlying23 (grV hg62)) (k:=wG1 (h:=fun hg63 => dc rfl (grV hg63) (grV hg63)) (k:=zV pkA (k:=zV moV (k:=wG1 (h:=fun hg64 => q_fl 5 pt) (k:=wG1 (h:=fun hg65 => ldV 0 isAgg3 (hx:=grV hg65)) (k:=wG1 (h:=fun hg66 => bX rfl (grV hg66)) (k:=zV pkA (k:=?_))))))))
 refine zV moV (k:=wG1 (h:=fun hg67 => q_fl 5 pt) (k:=wG1 (h:=fun hg68 => ldV 0 isAgg3 (hx:=grV hg68)) (k:=wG1 (h:=fun hg69 => q_fl 4 kc) (k:=wG1 (h:=fun hg70 => ldV 0 isAgg3 (hx:=grV hg70)) (k:=wG1 (h:=fun hg71 => dc rfl (grV hg71) (grV hg71)) (k:=zV pkA (k:=zV moV (k:=?_))))))))
 refine wG1 (h:=fun hg72 => q_fl 6 oZ) (k:=wG1 (h:=fun hg73 => ldV 0 isAgg3 (hx:=grV hg73)) (k:=wG1 (h:=fun hg74 => bX rfl (grV hg74)) (k:=zV pkA (k:=zV moV (k:=wG1 (h:=fun hg75 => q_fl 6 oZ) (k:=wG1 (h:=fun hg76 => ldV 0 isAgg3 (hx:=grV hg76)) (k:=wG1 (h:=fun hg77 => q_fl 4 kc) (k:=?_))))))))
 refine wG1 (h:=fun hg78 => ldV 0 isAgg3 (hx:=grV hg78)) (k:=wG1 (h:=fun hg79 => dc rfl (grV hg79) (grV hg79)) (k:=zV pkA (k:=zV moV (k:=wG1 (h:=fun hg80 => q_fl 5 pt) (k:=wG1 (h:=fun hg81 => ldV 0 isAgg3 (hx:=grV hg81)) (k:=wG1 (h:=fun hg82 => q_fl 6 oZ) (k:=wG1 (h:=fun hg83 => ldV 0 isAgg3 (hx:=grV hg83)) (k:=?_))))))))
 refine wG1 (h:=fun hg84 => cK rfl (grV hg84) (grV hg84)) (k:=wG1 (h:=fun hg85 => q_fl 4 kc) (k:=wG1 (h:=fun hg86 => ldV 0 isAgg3 (hx:=grV hg86)) (k:=wG1 (h:=fun hg87 => bJ rfl (grV hg87) (grV hg87)) (k:=zV pkA (k:=zV moV (k:=wG1 (h:=fun hg88 => q_fl 7 lI) (k:=wG1 (h:=fun hg89 => ldV 0 isAgg2 (hx:=grV hg89)) (k:=?_))))))))
 refine wG1 (h:=fun hg90 => bX rfl (grV hg90)) (k:=zV pkA (k:=zV moV (k:=wG1 (h:=fun hg91 => q_fl 8 jJ) (k:=wG1 (h:=fun hg92 => ldV 0 isAgg9 (hx:=grV hg92)) (k:=wG1 (h:=fun hg93 => aQ rfl underlying9 (grV hg93)) (k:=wG1 (h:=fun hg94 => bX rfl (grV hg94)) (k:=zV pkA (k:=?_))))))))
 refine zV moV (k:=wG1 (h:=fun hg95 => q_fl 8 jJ) (k:=wG1 (h:=fun hg96 => ldV 0 isAgg9 (hx:=grV hg96)) (k:=wG1 (h:=fun hg97 => aQ rfl underlying9 (grV hg97)) (k:=wG1 (h:=fun hg98 => dc rfl (grV hg98)) (k:=zV pkA (k:=zV moV (k:=wG1 (h:=fun hg99 => q_fl 9 we) (k:=?_))))))))
 refine wG1 (h:=fun hg100 => ldV 0 isAgg3 (hx:=grV hg100)) (k:=wG1 (h:=fun hg101 => bX rfl (grV hg101)) (k:=zV pkA (k:=zV moV (k:=wG1 (h:=fun hg102 => q_fl 11 kF) (k:=wG1 (h:=fun hg103 => ldV 0 isAgg3 (hx:=grV hg103)) (k:=wG1 (h:=fun hg104 => bX rfl (grV hg104)) (k:=zV pkA (k:=?_))))))))
 refine zV moV (k:=wG1 (h:=fun hg105 => q_fl 11 kF) (k:=wG1 (h:=fun hg106 => ldV 0 isAgg3 (hx:=grV hg106)) (k:=wG1 (h:=fun hg107 => dc rfl (grV hg107)) (k:=zV pkA (k:=zV moV (k:=wG1 (h:=fun hg108 => q_fl 12 q9) (k:=wG1 (h:=fun hg109 => ldV 0 isAgg3 (hx:=grV hg109)) (k:=?_))))))))
 refine wG1 (h:=fun hg110 => bX rfl (grV hg110)) (k:=zV pkA (k:=zV moV (k:=wG1 (h:=fun hg111 => q_fl 13 pO) (k:=wG1 (h:=fun hg112 => ldV 0 isAgg3 (hx:=grV hg112)) (k:=wG1 (h:=fun hg113 => bX rfl (grV hg113)) (k:=zV pkA (k:=zV moV (k:=?_))))))))
 refine wG1 (h:=fun hg114 => q_fl 14 pI) (k:=wG1 (h:=fun hg115 => ldV 0 isAgg3 (hx:=grV hg115)) (k:=wG1 (h:=fun hg116 => bX rfl (grV hg116)) (k:=zV pkA (k:=zV moV (k:=wG1 (h:=fun hg117 => q_fl 14 pI) (k:=wG1 (h:=fun hg118 => ldV 0 isAgg3 (hx:=grV hg118)) (k:=wG1 (h:=fun hg119 => dc rfl (grV hg119)) (k:=?_))))))))
 refine zV pkA (k:=zV moV (k:=wG1 (h:=fun hg120 => q_fl 15 vr) (k:=wG1 (h:=fun hg121 => ldV 0 isAgg3 (hx:=grV hg121)) (k:=wG1 (h:=fun hg122 => bX rfl (grV hg122)) (k:=zV pkA (k:=zV moV (k:=wG1 (h:=fun hg123 => q_fl 16 iX) (k:=?_))))))))
 refine wG1 (h:=fun hg124 => ldV 0 isAgg2 (hx:=grV hg124)) (k:=wG1 (h:=fun hg125 => bX rfl (grV hg125)) (k:=zV pkA (k:=zV moV (k:=wG1 (h:=fun hg126 => q_fl 16 iX) (k:=wG1 (h:=fun hg127 => ldV 0 isAgg2 (hx:=grV hg127)) (k:=wG1 (h:=fun hg128 => dc rfl (grV hg128)) (k:=zV pkA (k:=?_))))))))
 refine zV aoV (k:=?_)
 refine WQ.nil ?_
 change WC _ _ _ _ _ _
 exact WC.ret fun w hw => rq_ r h hF hw
abbrev gE (r : List al) (U : List Rowb) (Γ : Gh) (v : Value) : Prop := ∃ (A0 : Option Addr), ∃ (c0 : Nat), ∃ (row0 : Rowb), v = .slice A0 r.length c0 ∧ U = [row0] ∧ Own bC Γ 81 row0 A0 c0 r ∧ True
theorem cG {As_ : Option Addr} {cs_ : Nat} {s_ : List al} (hs_ : Sl bC Γ As_ s_) (hs_c : s_.length ≤ cs_) (hp : Pre [] Γ w0) {r : List al} (h : dV s_ = some r) : Calls Tryz.prog 26 #[.slice As_ s_.length cs_] w0 (Outc Γ [] w0 (gE r)) := by
 refine goV [2] func26 ntmps26 results26 hp fun F hF => ?_
 refine WC.rs (aV (k:=WR.done (WC.seq (WC.rs (mV (k:=sV (ig underlying22 rfl rfl rfl) (k:=WR.done ?_)))))))
 refine WC.cnil h (by kernel_rfl) (fun hb => hs_.none_nil hb) (fun hb1 h => ?_) (fun hb1 h => ?_)
 ·
  refine WC.rs (aV (k:=WR.done ?_))
  refine WC.ret ?_
  intro w hw
  have hw := hw.pad
  exact re_ r [0] h hF hw ⟨none, 0, [], rfl, rfl, (Own.nil bC _ 81), trivial⟩
 refine WC.skip (wc_ (WC.rs ?_))
 refine bsV #[] 81 fun g2 => ?_
 refine mV (k:=?_)
 have ho3 : Own bC Γ 81 [(g2, .cells #[] 81 (0, 0))] (some ⟨g2, 0, none⟩) 0 ([] : List al) := Own.of_blockL (T := bC) (ys := ([] : List al)) [] rfl (show 0 ≤ lim by decide) (show True from trivial)
 obtain ⟨hk4, h⟩ := ah h
 refine apV 0 s_ tK ho3 (of_decide_eq_true hk4) (fun w hw => jo hs_ hw) ?_
 intro row5 A6 c7 ho8
 refine aV (k:=WR.done ?_)
 exact WC.ret fun w hw => re_ r [0] h hF hw ⟨A6, c7, row5, rfl, rfl, ho8, trivial⟩
abbrev jg (r : List Int) (U : List Rowb) (Γ : Gh) (v : Value) : Prop := ∃ (A0 : Option Addr), ∃ (c0 : Nat), ∃ (row0 : Rowb), v = .slice A0 r.length c0 ∧ U = [row0] ∧ Own intT Γ 3 row0 A0 c0 r ∧ True
theorem bn {As_ : Option Addr} {cs_ : Nat} {s_ : List Int} (hs_ : Sl intT Γ As_ s_) (hs_c : s_.length ≤ cs_) (hp : Pre [] Γ w0) {r : List Int} (h : cy s_ = some r) : Calls Tryz.prog 27 #[.slice As_ s_.length cs_] w0 (Outc Γ [] w0 (jg r)) := by
 refine goV [2] func27 ntmps27 results27 hp fun F hF => ?_
 refine WC.rs (aV (k:=WR.done (WC.seq (WC.rs (mV (k:=sV (ig underlying23 rfl rfl rfl) (k:=WR.done ?_)))))))
 refine WC.cnil h (by kernel_rfl) (fun hb => hs_.none_nil hb) (fun hb1 h => ?_) (fun hb1 h => ?_)
 ·
  refine WC.rs (aV (k:=WR.done ?_))
  refine WC.ret ?_
  intro w hw
  have hw := hw.pad
  exact re_ r [0] h hF hw ⟨none, 0, [], rfl, rfl, (Own.nil intT _ 3), trivial⟩
 refine WC.skip (wc_ (WC.rs ?_))
 refine bsV #[] 3 fun g2 => ?_
 refine mV (k:=?_)
 have ho3 : Own intT Γ 3 [(g2, .cells #[] 3 (0, 0))] (some ⟨g2, 0, none⟩) 0 ([] : List Int) := Own.of_blockL (T := intT) (ys := ([] : List Int)) [] rfl (show 0 ≤ lim by decide) (show True from trivial)
 obtain ⟨hk4, h⟩ := ah h
 refine apV 0 s_ gi ho3 (of_decide_eq_true hk4) (fun w hw => jo hs_ hw) ?_
 intro row5 A6 c7 ho8
 refine aV (k:=WR.done ?_)
 exact WC.ret fun w hw => re_ r [0] h hF hw ⟨A6, c7, row5, rfl, rfl, ho8, trivial⟩
abbrev rt (r : bm) (U : List Rowb) (Γ : Gh) (v : Value) : Prop := ∃ (g0 : Nat), ∃ (row0 : Rowb), v = .pointer (some ⟨g0, 0, none⟩) ∧ U = [row0] ∧ bm.ob 144 Γ g0 row0 r ∧ True
theorem nr (room : Int) (hroom : I64 room) (hp : Pre [] Γ w0) {r : bm} (h : nn room = some r) : Calls Tryz.prog 28 #[ii room] w0 (Outc Γ [] w0 (rt r)) := by
 refine goV [2] func28 ntmps28 results28 hp fun F hF => ?_
 refine WC.rs (aV (k:=WR.done (WC.rs (mV (k:=sV tF (k:=sV (bh (v := .agg #[ii (max room 0), .slice none 0 0]) rfl (mR rfl) (fun w => by kernel_rfl)) (k:=?_)))))))
 refine bxV (v := .agg #[ii (max room 0), .slice none 0 0]) fun g1 => ?_
 refine aV (k:=WR.done ?_)
 refine WC.ret ?_
 intro w hw
 obtain ⟨row_2, hrow_2, hob_2⟩ : ∃ rw : Rowb, rw = ([[(g1, .cells #[ii (max room 0), .slice none 0 0] 144 (0, 0))]] : List Rowb).flatten ∧ bm.ob 144 Γ g1 rw (⟨(max room 0), []⟩ : bm) := ⟨_, rfl, none, 0, rfl, (wO hroom iV), (Nat.zero_le 0), (Sl.nil _ _ none), trivial⟩
 have hw := hw.fold (is := [0]) rfl hrow_2
 obtain rfl := Option.some.inj h
 subst hF
 exact bO (is := [0]) (by kernel_rfl) hw rfl ⟨g1, row_2, rfl, rfl, hob_2, trivial⟩
theorem ln {Ac_2 : Option Addr} {cc_2 : Nat} {Ac_5 : Option Addr} {cc_5 : Nat} (c_ : aD) (hc_ : aD.fits Γ Ac_2 cc_2 Ac_5 cc_5 c_) (hs : Sat Γ w0) {r : Bool} (h : gO c_ = some r) : CQ Tryz.prog 67 #[.agg (aD.cs Ac_2 cc_2 Ac_5 cc_5 c_).toArray] w0 (.bool r) := by
 refine goQ [2] func67 ntmps67 results67 hs fun F hF => ?_
 refine WC.rs ?_
 refine bxV (v := .agg (aD.cs Ac_2 cc_2 Ac_5 cc_5 c_).toArray) fun g1 => ?_
 refine aV (k:=WR.done (WC.seq (WC.rs (sV (q_fl 2 ki) (k:=sV (ldV 0 isAgg23) (k:=sV (ai rfl underlying23) (k:=mV (k:=?_))))))))
 refine WR.done (WC.block ?_)
 refine WC.forI h (fun (i3 : Nat) (s : Unit) σ w => match s with | () => slots σ [(1, (pq g1)), (6, .slice Ac_2 c_.links.length cc_2), (7, ii (c_.links.length : Int)), (8, ii (i3 : Int))] ∧ CC F Γ [[(g1, .cells (aD.cs Ac_2 cc_2 Ac_5 cc_5 c_).toArray 100 (0, 0))]] w ∧ True) ?_ ?_
 ·
  intro w hw
  exact ⟨slK, hw, trivial⟩
 rintro f2 i3 ⟨⟩ σ w hi4 hlt5 hge6 ⟨hsl, hw, -⟩
 refine slV hsl hw [_] ?_; clear hw hsl
 refine WC.rs (sV aI (k:=WR.done (WC.seq ?_)))
 refine coV (fun hb7 => ?_) (fun hb7 => ?_)
 ·
  have hl8 := ilt hb7
  have h := hlt5 hl8
  refine WC.skip (wc_ (WC.seq (WC.block (WC.rs (mV (k:=sV (bB (i := i3) underlying23 sizeOf3 rfl rfl rfl hl8 (hc_.2.2.1.2.some_ hl8)) (k:=sV (q_ld (c := 0) (v := ii (gt c_.links i3)) (hc_.2.2.1.2.intT_at hl8).2 rfl isAgg3 rfl rfl) (k:=?_))))))))
  refine aV (k:=aV (k:=WR.done (WC.rs (mV (k:=sV aI (k:=mV (k:=vG0 (h:=fun hg9 => moV) (k:=?_))))))))
  refine vG0 (h:=fun hg10 => q_fl 1 gA) (k:=vG0 (h:=fun hg11 => ldV 0 isAgg3 (hx:=grV hg11)) (k:=vG0 (h:=fun hg12 => bJ rfl (grV hg12) (grV hg12)) (k:=sV pkO (k:=mV (k:=vG0 (h:=fun hg13 => moV) (k:=vG0 (h:=fun hg14 => q_fl 0 mT) (k:=vG0 (h:=fun hg15 => ldV 0 isAgg3 (hx:=grV hg15)) (k:=?_))))))))
  refine vG0 (h:=fun hg16 => dl rfl (grV hg16) (grV hg16)) (k:=sV pkO (k:=mV (k:=vG0 (h:=fun hg17 => moV) (k:=vG0 (h:=fun hg18 => bJ rfl (grV hg18)) (k:=vG0 (h:=fun hg19 => cI (v := .bool (decide (0 < (i3 : Int)))) rfl (grV hg19)) (k:=vh1 (c0 := (!(((decide ((gt c_.links i3) < 1)) || (decide (c_.sites < (gt c_.links i3)))) || ((gt c_.links i3) == c_.self)))) (g := (decide (0 < (i3 : Int)))) rfl rfl rfl rfl rfl (fun _ => QV.qo moV) (vh1 (c0 := (!(((decide ((gt c_.links i3) < 1)) || (decide (c_.sites < (gt c_.links i3)))) || ((gt c_.links i3) == c_.self)))) (g := (decide (0 < (i3 : Int)))) rfl rfl rfl rfl rfl (fun _ => QV.qo (q_fl 2 ki)) ?_)))))))
  refine vh1 (c0 := (!(((decide ((gt c_.links i3) < 1)) || (decide (c_.sites < (gt c_.links i3)))) || ((gt c_.links i3) == c_.self)))) (g := (decide (0 < (i3 : Int)))) rfl rfl rfl rfl rfl (fun hg22 => QV.qo (ldV 0 isAgg23 (hx:=grV hg22))) (vh1 (c0 := (!(((decide ((gt c_.links i3) < 1)) || (decide (c_.sites < (gt c_.links i3)))) || ((gt c_.links i3) == c_.self)))) (g := (decide (0 < (i3 : Int)))) rfl rfl rfl rfl rfl (fun _ => QV.qo moV) (vh1 (c0 := (!(((decide ((gt c_.links i3) < 1)) || (decide (c_.sites < (gt c_.links i3)))) || ((gt c_.links i3) == c_.self)))) (g := (decide (0 < (i3 : Int)))) rfl rfl rfl rfl rfl (fun hg24 => QV.qo (eI rfl (grV hg24))) ?_))
  obtain ⟨hk26, h⟩ := ah h
  refine vh1 (c0 := (!(((decide ((gt c_.links i3) < 1)) || (decide (c_.sites < (gt c_.links i3)))) || ((gt c_.links i3) == c_.self)))) (g := (decide (0 < (i3 : Int)))) rfl rfl rfl rfl rfl (fun hg25 => QV.qo (q_ix underlying23 sizeOf3 rfl (grV hg25) (grV hg25) (bK hk26 hg25) (hc_.2.2.1.2.some_ (cw (bK hk26 hg25))))) (vh1 (c0 := (!(((decide ((gt c_.links i3) < 1)) || (decide (c_.sites < (gt c_.links i3)))) || ((gt c_.links i3) == c_.self)))) (g := (decide (0 < (i3 : Int)))) rfl rfl rfl rfl rfl (fun hg27 => QV.qo (q_ld (c := 0) (v := ii (gt c_.links ((w64 ((i3 : Int) - 1)).toNat))) (hc_.2.2.1.2.intT_at (cw (bK hk26 hg27))).2 rfl isAgg3 (grV hg27) rfl)) (vh1 (c0 := (!(((decide ((gt c_.links i3) < 1)) || (decide (c_.sites < (gt c_.links i3)))) || ((gt c_.links i3) == c_.self)))) (g := (decide (0 < (i3 : Int)))) rfl rfl rfl rfl rfl (fun hg28 => QV.qo (dc rfl (grV hg28) (grV hg28))) (vG0 (h:=fun hg29 => fU rfl (grV hg29) (mJ (c := (!(((decide ((gt c_.links i3) < 1)) || (decide (c_.sites < (gt c_.links i3)))) || ((gt c_.links i3) == c_.self)))) (g := (decide (0 < (i3 : Int)))) (y := (decide ((gt c_.links i3) ≤ (gt c_.links ((w64 ((i3 : Int) - 1)).toNat))))) hg29)) (k:=sV pkO (k:=WR.done ?_)))))
  refine ciV h (fun hb30 h => ?_) (fun hb30 h => ?_)
  ·
   refine WC.rs (aV (k:=WR.done ?_))
   exact WC.ret fun w hw => rq_ r h hF hw
  refine WC.skip (wc_ ?_)
  refine WC.region ?_
  refine sV (aK rfl rfl rfl (bx hl8 hc_.2.2.1.2.le)) (k:=mV (k:=?_))
  refine WR.nil ?_
  intro w hw
  exact ⟨hl8, (), h, slK, hw, trivial⟩
 have h := hge6 (ige hb7)
 refine WC.exit ?_
 change WC _ _ _ _ _ _
 refine WC.rs (sV (q_fl 1 gA) (k:=sV (ldV 0 isAgg3) (k:=sV bX (k:=mV (k:=vG1 (h:=fun hg31 => q_fl 1 gA) (k:=vG1 (h:=fun hg32 => ldV 0 isAgg3 (hx:=grV hg32)) (k:=vG1 (h:=fun hg33 => dc rfl (grV hg33)) (k:=?_))))))))
 refine sV pkA (k:=mV (k:=vG1 (h:=fun hg34 => q_fl 0 mT) (k:=vG1 (h:=fun hg35 => ldV 0 isAgg3 (hx:=grV hg35)) (k:=vG1 (h:=fun hg36 => bX rfl (grV hg36)) (k:=sV pkA (k:=mV (k:=vG1 (h:=fun hg37 => q_fl 0 mT) (k:=?_))))))))
 refine vG1 (h:=fun hg38 => ldV 0 isAgg3 (hx:=grV hg38)) (k:=vG1 (h:=fun hg39 => q_fl 1 gA) (k:=vG1 (h:=fun hg40 => ldV 0 isAgg3 (hx:=grV hg40)) (k:=vG1 (h:=fun hg41 => dc rfl (grV hg41) (grV hg41)) (k:=sV pkA (k:=mV (k:=vG1 (h:=fun hg42 => q_fl 3 pX) (k:=vG1 (h:=fun hg43 => ldV 0 isAgg3 (hx:=grV hg43)) (k:=?_))))))))
 refine vG1 (h:=fun hg44 => bX rfl (grV hg44)) (k:=sV pkA (k:=mV (k:=vG1 (h:=fun hg45 => q_fl 3 pX) (k:=vG1 (h:=fun hg46 => ldV 0 isAgg3 (hx:=grV hg46)) (k:=vG1 (h:=fun hg47 => dc rfl (grV hg47)) (k:=sV pkA (k:=mV (k:=?_))))))))
 refine vG1 (h:=fun hg48 => q_fl 4 kj) (k:=vG1 (h:=fun hg49 => ldV 0 isAgg2 (hx:=grV hg49)) (k:=vG1 (h:=fun hg50 => bX rfl (grV hg50)) (k:=sV pkA (k:=mV (k:=vG1 (h:=fun hg51 => q_fl 4 kj) (k:=vG1 (h:=fun hg52 => ldV 0 isAgg2 (hx:=grV hg52)) (k:=vG1 (h:=fun hg53 => dc rfl (grV hg53)) (k:=?_))))))))
 refine sV pkA (k:=mV (k:=vG1 (h:=fun hg54 => q_fl 5 pP) (k:=vG1 (h:=fun hg55 => ldV 0 isAgg23 (hx:=grV hg55)) (k:=?_))))
 obtain ⟨z57, hz58, h⟩ := bnd h
 refine vC1 (h:=fun hg56 => dU (ew call34 rfl rfl (nh (grV hg56))) (fun w hw => lP (Γ := Gh.all w) (hc_.2.2.2.2.2.2.mono hw.sat.le_all) hc_.2.2.2.2.2.1 (Sat.all w) (nv hz58 hg56))) (k:=sV pkA (k:=aV (k:=WR.done ?_)))
 exact WC.ret fun w hw => rq_ r h hF hw
theorem eZ (s_ : ByteArray) (hs_ : s_.size ≤ lim) (c_ : Int) (hc_ : U8 c_) (hs : Sat Γ w0) {r : Int} (h : cU s_ c_ = some r) : CQ Tryz.prog 361 #[.string s_, .int .u8 c_] w0 (ii r) := by
 refine goQ [4] func361 ntmps361 results361 hs fun F hF => ?_
 refine WC.rs (aV (k:=WR.done (WC.rs (mV (k:=mV (k:=sV (Ag (s := s_) (c := c_) func392 (by kernel_rfl) (by kernel_rfl) (by kernel_rfl) (by kernel_rfl) rfl (by kernel_rfl)) (k:=aV (k:=?_))))))))
 refine WR.done ?_
 exact WC.ret fun w hw => rq_ r h hF hw
theorem dA (s_ : ByteArray) (hs_ : s_.size ≤ lim) (hs : Sat Γ w0) {r : Int} (h : cv s_ = some r) : CQ Tryz.prog 305 #[.string s_, .string (⟨#[46]⟩ : ByteArray)] w0 (ii r) := by
 refine goQ [4] func305 ntmps305 results305 hs fun F hF => ?_
 refine WC.rs (aV (k:=WR.done (WC.rs (mV (k:=sV (show QV _ _ _ _ (ii 1) from (show QV _ _ _ _ (ii (((⟨#[46]⟩ : ByteArray).size : Nat) : Int)) from aQ rfl underlying9)) (k:=aV (k:=WR.done ?_)))))))
 refine WC.seq (WC.block (WC.rs (mV (k:=sV dl (k:=mV (k:=?_))))))
 refine WR.sat (c0 := true) (g := (1 == 0)) rfl rfl rfl (notf (show (((1 : Int) == 0)) = false by decide)) ?_
 refine mV (k:=?_)
 refine WR.sat (c0 := true) (g := (1 == 0)) rfl rfl rfl (notf (show (((1 : Int) == 0)) = false by decide)) ?_
 refine mV (k:=?_)
 refine WR.sat (c0 := true) (g := (1 == 0)) rfl rfl rfl (notf (show (((1 : Int) == 0)) = false by decide)) ?_
 refine sV qD (k:=sV (iR (v := .bool ((⟨#[46]⟩ : ByteArray) == s_)) rfl rfl (show (((1 : Int) == 0)) = false by decide) (by kernel_rfl)) (k:=aV (k:=WR.done ?_)))
 refine ciV h (fun hb1 h => ?_) (fun hb1 h => ?_)
 ·
  refine WC.rs (aV (k:=WR.done ?_))
  exact WC.ret fun w hw => rq_ r h hF hw
 refine WC.rs (mV (k:=sV dl (k:=aV (k:=WR.done ?_))))
 refine WC.ctk (b := (1 == 1)) (by kernel_rfl) (show (((1 : Int) == 1)) = true by decide) ?_
 refine WC.rs (mV (k:=mV (k:=sV (show QV _ _ _ _ (.int .u8 46) from ta (s := (⟨#[46]⟩ : ByteArray)) (i := 0) underlying9 rfl rfl rfl (by decide)) (k:=?_))))
 obtain ⟨z2, hz3, h⟩ := bnd h
 refine vqV (caV call361) (fun w hw => eZ (Γ := Gh.all w) s_ hs_ 46 (show U8 46 by decide) (Sat.all w) hz3) (k:=aV (k:=WR.done ?_))
 exact WC.ret fun w hw => rq_ r h hF hw
theorem nP (s_ : ByteArray) (hs_ : s_.size ≤ lim) (hs : Sat Γ w0) {r : Int} (h : jt s_ = some r) : CQ Tryz.prog 229 #[.string s_, .string (⟨#[46]⟩ : ByteArray)] w0 (ii r) := by
 refine goQ [4] func229 ntmps229 results229 hs fun F hF => ?_
 refine WC.rs (aV (k:=WR.done (WC.rs (mV (k:=mV (k:=?_))))))
 obtain ⟨z1, hz2, h⟩ := bnd h
 refine vqV (caV call305) (fun w hw => dA (Γ := Gh.all w) s_ hs_ (Sat.all w) hz2) (k:=aV (k:=WR.done ?_))
 exact WC.ret fun w hw => rq_ r h hF hw
theorem ld (s_ : ByteArray) (hs_ : s_.size ≤ lim) (hs : Sat Γ w0) {r : Bool} (h : gU s_ = some r) : CQ Tryz.prog 130 #[.string s_, .string (⟨#[46]⟩ : ByteArray)] w0 (.bool r) := by
 refine goQ [4] func130 ntmps130 results130 hs fun F hF => ?_
 refine WC.rs (aV (k:=WR.done (WC.rs (mV (k:=mV (k:=?_))))))
 obtain ⟨z1, hz2, h⟩ := bnd h
 refine vqV (caV call229) (fun w hw => nP (Γ := Gh.all w) s_ hs_ (Sat.all w) hz2) (k:=sV bX (k:=aV (k:=WR.done ?_)))
 exact WC.ret fun w hw => rq_ r h hF hw
theorem gg {gp__0 : Nat} (p__1 : ByteArray) (hp__1 : p__1.size ≤ lim) (p__2 : Int) (hp__2 : I64 p__2) (hs : Sat Γ w0) {r : ByteArray} (h : ej p__1 p__2 = some r) : CQ Tryz.prog 134 #[.agg #[(pq gp__0), .string p__1, ii p__2]] w0 (.string r) := by
 refine goQ [2] func134 ntmps134 results134 hs fun F hF => ?_
 refine WC.rs ?_
 refine bxV (v := .agg #[(pq gp__0), .string p__1, ii p__2]) fun g1 => ?_
 refine aV (k:=WR.done (WC.rs (sV (q_fl 1 mW) (k:=sV (ldV 0 isAgg9) (k:=sV (mH rfl rfl rfl hp__1 (show (⟨#[46, 109]⟩ : ByteArray).size ≤ lim by decide)) (k:=aV (k:=WR.done ?_)))))))
 exact WC.ret fun w hw => rq_ r h hF hw
abbrev im (r : List UInt8) (U : List Rowb) (Γ : Gh) (v : Value) : Prop := ∃ (A0 : Option Addr), ∃ (c0 : Nat), ∃ (row0 : Rowb), v = .slice A0 r.length c0 ∧ U = [row0] ∧ Own ar Γ 5 row0 A0 c0 r ∧ True
theorem iq {As_ : Option Addr} {cs_ : Nat} {s_ : List UInt8} (hs_ : Sl ar Γ As_ s_) (hs_c : s_.length ≤ cs_) (hp : Pre [] Γ w0) {r : List UInt8} (h : er s_ = some r) : Calls Tryz.prog 306 #[.slice As_ s_.length cs_] w0 (Outc Γ [] w0 (im r)) := by
 refine goV [2] func306 ntmps306 results306 hp fun F hF => ?_
 refine WC.rs (aV (k:=WR.done (WC.seq (WC.rs (mV (k:=sV (ig underlying61 rfl rfl rfl) (k:=WR.done ?_)))))))
 refine WC.cnil h (by kernel_rfl) (fun hb => hs_.none_nil hb) (fun hb1 h => ?_) (fun hb1 h => ?_)
 ·
  refine WC.rs (aV (k:=WR.done ?_))
  refine WC.ret ?_
  intro w hw
  have hw := hw.pad
  exact re_ r [0] h hF hw ⟨none, 0, [], rfl, rfl, (Own.nil ar _ 5), trivial⟩
 refine WC.skip (wc_ (WC.rs ?_))
 refine bsV #[] 5 fun g2 => ?_
 refine mV (k:=?_)
 have ho3 : Own ar Γ 5 [(g2, .cells #[] 5 (0, 0))] (some ⟨g2, 0, none⟩) 0 ([] : List UInt8) := Own.of_blockL (T := ar) (ys := ([] : List UInt8)) [] rfl (show 0 ≤ lim by decide) (show True from trivial)
 obtain ⟨hk4, h⟩ := ah h
 refine apV 0 s_ bq ho3 (of_decide_eq_true hk4) (fun w hw => jo hs_ hw) ?_
 intro row5 A6 c7 ho8
 refine aV (k:=WR.done ?_)
 exact WC.ret fun w hw => re_ r [0] h hF hw ⟨A6, c7, row5, rfl, rfl, ho8, trivial⟩
abbrev mC (gd : Nat) (ed : Nat) (rowd : Rowb) (r : (List UInt8) × Bool) (U : List Rowb) (Γ : Gh) (v : Value) : Prop := ∃ (A0 : Option Addr), ∃ (c0 : Nat), ∃ (row0 : Rowb), v = .tuple #[.slice A0 r.1.length c0, .bool r.2] ∧ U = [rowd, row0] ∧ Own ar Γ 5 row0 A0 c0 r.1 ∧ True
theorem fw {gd ed : Nat} {rowd : Rowb} {d : aa} (hd : aa.ob ed Γ gd rowd d) (name : ByteArray) (hname : name.size ≤ lim) (hp : Pre [rowd] Γ w0) {r : (List UInt8) × Bool} (h : ef d name = some r) : Calls Tryz.prog 230 #[(pq gd), .string name] w0 (Outc Γ [rowd] w0 (mC gd ed rowd r)) := by
 refine goV [4, 5] func230 ntmps230 results230 hp fun F hF => ?_
 refine WC.rs (aV (k:=aV (k:=WR.done (WC.rs (mV (k:=sV nlV (k:=sV (q_fl 2 gD) (k:=?_))))))))
 obtain ⟨m1_1, r1_1, m2_1, r2_1, A3_1, c3_1, r3_1, hrow_1, ho0_1, ho1_1, ho2_1, ho3_1, -⟩ := id hd
 refine ufR 0 hrow_1 [_, _, _, _] ?_
 refine sV (ldV 0 isAgg102) (k:=mV (k:=?_))
 obtain ⟨v2, ⟨A5, c6, hv3, hc7, hs8⟩, hat4⟩ := MapO.look ho2_1 name (z := .slice none 0 0) (zx := []) ⟨none, 0, rfl, Nat.zero_le _, Sl.nil _ _ _⟩
 obtain rfl : v2 = _ := List.cons.inj hv3 |>.1
 refine sV (vk (v := .slice A5 ((mget name d.seen).getD []).length c6) hat4 rfl underlying102 zeroValue61 rfl rfl (i := 2) rfl) (k:=mV (k:=sV exV (k:=sV exV (k:=aV (k:=aV (k:=WR.done (WC.rs ?_)))))))
 refine mV (k:=?_)
 obtain ⟨z9, hz10, h⟩ := bnd h
 refine ecV [] (caV call306) (fun w hp => iq hs8 hc7 hp hz10) ?_
 rintro Γ11 _ _ hl12 ⟨A15, c16, row17, rfl, rfl, hr18, _⟩
 refine cwV 18 [_, _, _, _, _] (mV (k:=aV (k:=aV (k:=WR.done ?_))))
 refine WC.ret ?_
 intro w hw
 have hw := hw.fold (is := [1, 1, 1, 1]) rfl hrow_1
 exact re_ r [0, 0] h hF hw ⟨A15, c16, row17, rfl, rfl, hr18, trivial⟩
theorem kl {Ab : Option Addr} {cb : Nat} {b : List UInt8} (hb : Sl ar Γ Ab b) (hbc : b.length ≤ cb) (at_ : Int) (hat_ : I64 at_) (hs : Sat Γ w0) {r : Int × Int × Int} (h : cT b at_ = some r) : CQ Tryz.prog 159 #[.slice Ab b.length cb, ii at_] w0 (.tuple #[ii r.1, ii r.2.1, ii r.2.2]) := by
 refine goQ [4, 5, 6] func159 ntmps159 results159 hs fun F hF => ?_
 refine WC.rs (aV (k:=aV (k:=aV (k:=WR.done (WC.scope (WC.seq (WC.rs ?_)))))))
 refine mV (k:=sV aI (k:=mV (k:=vG0 (h:=fun hg1 => moV) (k:=vG0 (h:=fun hg2 => moV) (k:=vG0 (h:=fun hg3 => ai rfl underlying61 (grV hg3)) (k:=vG0 (h:=fun hg4 => bJ rfl (grV hg4) (grV hg4)) (k:=sV pkO (k:=?_))))))))
 refine WR.done ?_
 refine ciV h (fun hb5 h => ?_) (fun hb5 h => ?_)
 ·
  refine WC.rs (aV (k:=aV (k:=aV (k:=WR.done ?_))))
  exact WC.ret fun w hw => by obtain rfl := Option.some.inj h; exact ⟨by kernel_rfl, fr_ hF hw⟩
 refine WC.skip (wc_ (WC.rs (aV (k:=WR.done (WC.rs (aV (k:=WR.done ?_)))))))
 refine WC.seq ?_
 refine WC.label ?_
 change WC _ _ _ _ _ _
 refine WC.cut (fun σ w => ∃ (e_6 : Int), gj e_6 = some r ∧ slots σ [(7, ii e_6)] ∧ CC F Γ [] w ∧ I64 e_6 ∧ True) ?_ ?_
 ·
  refine WC.rs (mV (k:=mV (k:=?_)))
  obtain ⟨hk8, h⟩ := ah h
  refine sV (ji (c := cb) (lo := at_.toNat) (xs := b) underlying61 sizeOf5 rfl rfl (dp rfl hk8) (aY hk8)) (k:=sV (ai rfl underlying61) (k:=mV (k:=WR.done (WC.block ?_))))
  refine WC.forI h (fun (i11 : Nat) (n_9 : Int) σ w => slots σ [(1, ii at_), (7, ii 4), (8, .int .u64 n_9), (21, .slice (if cb = at_.toNat then Ab else Option.map (fun a => a.add (at_.toNat * 1)) Ab) (List.drop at_.toNat b).length (cb - at_.toNat)), (22, ii (((List.drop at_.toNat b).length : Nat) : Int)), (23, ii (i11 : Int))] ∧ CC F Γ [] w ∧ True) ?_ ?_
  ·
   intro w hw
   exact ⟨slK, hw, trivial⟩
  rintro f10 i11 n_9 σ w hi12 hlt13 hge14 ⟨hsl, hw, -⟩
  refine slV hsl hw [] ?_; clear hw hsl
  refine WC.rs (sV aI (k:=WR.done (WC.seq ?_)))
  refine coV (fun hb15 => ?_) (fun hb15 => ?_)
  ·
   have hl16 := ilt hb15
   have h := hlt13 hl16
   refine WC.skip (wc_ (WC.seq (WC.block (WC.rs (mV (k:=sV (bB (i := i11) underlying61 sizeOf5 rfl rfl rfl hl16 ((hb.cut_from (c := cb) (lo := at_.toNat) (aY hk8) hbc).some_ hl16)) (k:=sV (q_ld (c := 0) (v := .int .u8 (((gt (List.drop at_.toNat b) i11).toNat : Nat) : Int)) ((hb.cut_from (c := cb) (lo := at_.toNat) (aY hk8) hbc).byteT_at hl16).2 rfl isAgg5 rfl rfl) (k:=?_))))))))
   refine aV (k:=aV (k:=WR.done (WC.seq (WC.block ?_))))
   refine WC.cut (fun σ w => ∃ (x_17 : Bool), fC b at_ n_9 f10 i11 x_17 = some r ∧ slots σ [(1, ii at_), (7, ii 4), (8, .int .u64 n_9), (9, ii (i11 : Int)), (10, .int .u8 (((gt (List.drop at_.toNat b) i11).toNat : Nat) : Int)), (21, .slice (if cb = at_.toNat then Ab else Option.map (fun a => a.add (at_.toNat * 1)) Ab) (List.drop at_.toNat b).length (cb - at_.toNat)), (22, ii (((List.drop at_.toNat b).length : Nat) : Int)), (23, ii (i11 : Int)), (28, .bool x_17)] ∧ CC F Γ [] w ∧ True) ?_ ?_
   ·
    refine WC.rs (mV (k:=sV dl (k:=mV (k:=vG1 (h:=fun hg18 => moV) (k:=vG1 (h:=fun hg19 => bJ rfl (grV hg19)) (k:=sV pkA (k:=aV (k:=?_))))))))
    refine WR.done ?_
    refine ciV h (fun hb20 h => ?_) (fun hb20 h => ?_)
    ·
     refine WC.skip ?_
     intro w hw
     exact ⟨(((i11 : Int) == 8) && (decide (127 < (((gt (List.drop at_.toNat b) i11).toNat : Nat) : Int)))), h, slK, hw, trivial⟩
    refine WC.region ?_
    refine mV (k:=sV bJ (k:=mV (k:=vG1 (h:=fun hg21 => moV) (k:=vG1 (h:=fun hg22 => dl rfl (grV hg22)) (k:=sV pkA (k:=aV (k:=?_)))))))
    refine WR.nil ?_
    intro w hw
    exact ⟨((decide (0 < (i11 : Int))) && ((((gt (List.drop at_.toNat b) i11).toNat : Nat) : Int) == 0)), h, slK, hw, trivial⟩
   rintro σ w ⟨x_17, h, hsl, hw, -⟩
   refine slV hsl hw [] ?_; clear hw hsl
   refine ciV h (fun hb23 h => ?_) (fun hb23 h => ?_)
   ·
    refine WC.rs (aV (k:=WR.done ?_))
    refine WC.exit ?_
    intro w hw
    exact ⟨2, h, slK, hw, iV, trivial⟩
   refine WC.rs (mV (k:=sV aI (k:=aV (k:=WR.done ?_))))
   refine ciV h (fun hb24 h => ?_) (fun hb24 h => ?_)
   ·
    refine WC.rs (mV (k:=mV (k:=sV (cj underlying205 underlying5) (k:=mV (k:=sV iQ (k:=?_))))))
    obtain ⟨hk25, h⟩ := ah h
    refine sV (wN rfl rfl rfl hk25) (k:=sV q_or (k:=sV (cj underlying2 underlying205) (k:=mV (k:=mV (k:=sV cK (k:=sV cK (k:=aV (k:=?_))))))))
    refine aV (k:=aV (k:=WR.done ?_))
    exact WC.ret fun w hw => by obtain rfl := Option.some.inj h; exact ⟨by kernel_rfl, fr_ hF hw⟩
   refine WC.skip (wc_ ?_)
   refine WC.region ?_
   refine mV (k:=mV (k:=sV u6 (k:=sV (cj underlying205 underlying5) (k:=mV (k:=sV iQ (k:=?_))))))
   obtain ⟨hk26, h⟩ := ah h
   refine sV (wN rfl rfl rfl hk26) (k:=sV q_or (k:=aV (k:=?_)))
   refine WR.nil ?_
   change WC _ _ _ _ _ _
   refine WC.region ?_
   refine sV (aK rfl rfl rfl (bx hl16 (hb.cut_from (c := cb) (lo := at_.toNat) (aY hk8) hbc).le)) (k:=mV (k:=?_))
   refine WR.nil ?_
   intro w hw
   exact ⟨hl16, (ior .u64 n_9 (ishl .u64 (wu64 (iand .u8 (((gt (List.drop at_.toNat b) i11).toNat : Nat) : Int) 127)) (w64 (7 * (i11 : Int))))), h, slK, hw, trivial⟩
  have h := hge14 (ige hb15)
  refine WC.exit ?_
  intro w hw
  exact ⟨4, h, slK, hw, iV, trivial⟩
 rintro σ w ⟨e_6, h, hsl, hw, hr7, -⟩
 refine slV hsl hw [] ?_; clear hw hsl
 refine WC.rs (mV (k:=aV (k:=aV (k:=aV (k:=WR.done ?_)))))
 exact WC.ret fun w hw => by obtain rfl := Option.some.inj h; exact ⟨by kernel_rfl, fr_ hF hw⟩
theorem sD {Aparts : Option Addr} {cparts : Nat} {parts : List (List UInt8)} (hparts : Sl (slT ar) Γ Aparts parts) (hpartsc : parts.length ≤ cparts) (hs : Sat Γ w0) {r : Int} (h : nb parts = some r) : CQ Tryz.prog 378 #[.slice Aparts parts.length cparts] w0 (.int .u32 r) := by
 refine goQ [2] func378 ntmps378 results378 hs fun F hF => ?_
 refine WC.rs (aV (k:=WR.done (WC.rs (aV (k:=WR.done (WC.seq (WC.rs ?_)))))))
 refine mV (k:=sV (ai rfl underlying69) (k:=mV (k:=WR.done (WC.block ?_))))
 refine WC.forI h (fun (i3 : Nat) (r_1 : Int) σ w => slots σ [(3, .int .u32 r_1), (8, .slice Aparts parts.length cparts), (9, ii (parts.length : Int)), (10, ii (i3 : Int))] ∧ CC F Γ [] w ∧ True) ?_ ?_
 ·
  intro w hw
  exact ⟨slK, hw, trivial⟩
 rintro f2 i3 r_1 σ w hi4 hlt5 hge6 ⟨hsl, hw, -⟩
 refine slV hsl hw [] ?_; clear hw hsl
 refine WC.rs (sV aI (k:=WR.done (WC.seq ?_)))
 refine coV (fun hb7 => ?_) (fun hb7 => ?_)
 ·
  have hl8 := ilt hb7
  have h := hlt5 hl8
  refine WC.skip (wc_ (WC.seq (WC.block (WC.rs (sV (bB (i := i3) underlying69 sizeOf61 rfl rfl rfl hl8 (hparts.some_ hl8)) (k:=?_))))))
  obtain ⟨A9, c10, hx11⟩ := hparts.slT_at i3
  refine sV (q_ld (c := 0) (v := .slice A9 (gt parts i3).length c10) (hx11 hl8).2 rfl isAgg61 rfl rfl) (k:=aV (k:=WR.done (WC.rs (mV (k:=sV (ai rfl underlying61) (k:=mV (k:=WR.done ?_)))))))
  refine WC.block ?_
  refine WC.forI h (fun (i14 : Nat) (r_12 : Int) σ w => slots σ [(3, .int .u32 r_12), (8, .slice Aparts parts.length cparts), (9, ii (parts.length : Int)), (10, ii (i3 : Int)), (14, .slice A9 (gt parts i3).length c10), (15, ii (((gt parts i3).length : Nat) : Int)), (16, ii (i14 : Int))] ∧ CC F Γ [] w ∧ True) ?_ ?_
  ·
   intro w hw
   exact ⟨slK, hw, trivial⟩
  rintro f13 i14 r_12 σ w hi15 hlt16 hge17 ⟨hsl, hw, -⟩
  refine slV hsl hw [] ?_; clear hw hsl
  refine WC.rs (sV aI (k:=WR.done (WC.seq ?_)))
  refine coV (fun hb18 => ?_) (fun hb18 => ?_)
  ·
   have hl19 := ilt hb18
   have h := hlt16 hl19
   refine WC.skip (wc_ (WC.seq (WC.block (WC.rs (sV (bB (i := i14) underlying61 sizeOf5 rfl rfl rfl hl19 ((hx11 hl8).1.2.some_ hl19)) (k:=sV (q_ld (c := 0) (v := .int .u8 (((gt (gt parts i3) i14).toNat : Nat) : Int)) ((hx11 hl8).1.2.byteT_at hl19).2 rfl isAgg5 rfl rfl) (k:=aV (k:=?_))))))))
   refine WR.done (WC.rs (mV (k:=mV (k:=sV (cj underlying236 underlying5) (k:=sV ny (k:=aV (k:=WR.done ?_)))))))
   refine WC.rs (mV (k:=WR.done (WC.block ?_)))
   refine WC.forU h (fun (i22 : Nat) (r_20 : Int) σ w => slots σ [(3, .int .u32 r_20), (8, .slice Aparts parts.length cparts), (9, ii (parts.length : Int)), (10, ii (i3 : Int)), (14, .slice A9 (gt parts i3).length c10), (15, ii (((gt parts i3).length : Nat) : Int)), (16, ii (i14 : Int)), (24, ii (i22 : Int))] ∧ CC F Γ [] w ∧ True) ?_ ?_
   ·
    intro w hw
    exact ⟨slK, hw, trivial⟩
   rintro f21 i22 r_20 σ w hi23 hlt24 hge25 ⟨hsl, hw, -⟩
   refine slV hsl hw [] ?_; clear hw hsl
   refine WC.rs (sV aI (k:=WR.done (WC.seq ?_)))
   refine coV (fun hb26 => ?_) (fun hb26 => ?_)
   ·
    have hl27 := ilt hb26
    have h := hlt24 hl27
    refine WC.skip (wc_ (WC.seq (WC.block ?_)))
    refine WC.region ?_
    refine mV (k:=sV (oE rfl rfl rfl (by decide)) (k:=mV (k:=sV u6 (k:=sV yt (k:=sV u6 (k:=sV ny (k:=aV (k:=?_))))))))
    refine WR.nil ?_
    change WC _ _ _ _ _ _
    refine WC.region ?_
    refine sV (aK rfl rfl rfl (kD hl27 (by decide))) (k:=mV (k:=?_))
    refine WR.nil ?_
    intro w hw
    exact ⟨hl27, (ixor .u32 (ishr .u32 r_20 1) (iand .u32 3988292384 (wu32 (0 - (iand .u32 r_20 1))))), h, slK, hw, trivial⟩
   have h := hge25 (ige hb26)
   refine WC.exit ?_
   change WC _ _ _ _ _ _
   refine WC.region ?_
   refine sV (aK rfl rfl rfl (bx hl19 (hx11 hl8).1.2.le)) (k:=mV (k:=?_))
   refine WR.nil ?_
   intro w hw
   exact ⟨hl19, r_20, h, slK, hw, trivial⟩
  have h := hge17 (ige hb18)
  refine WC.exit ?_
  change WC _ _ _ _ _ _
  refine WC.region ?_
  refine sV (aK rfl rfl rfl (bx hl8 hparts.le)) (k:=mV (k:=?_))
  refine WR.nil ?_
  intro w hw
  exact ⟨hl8, r_12, h, slK, hw, trivial⟩
 have h := hge6 (ige hb7)
 refine WC.exit ?_
 change WC _ _ _ _ _ _
 refine WC.rs (mV (k:=sV (Ar rfl rfl) (k:=aV (k:=WR.done ?_))))
 exact WC.ret fun w hw => rq_ r h hF hw
abbrev qX (r : (List UInt8) × Int × Int) (U : List Rowb) (Γ : Gh) (v : Value) : Prop := ∃ (A0 : Option Addr), ∃ (c0 : Nat), ∃ (row0 : Rowb), v = .tuple #[.slice A0 r.1.length c0, .int .i64 r.2.1, .int .i64 r.2.2] ∧ U = [row0] ∧ Own ar Γ 5 row0 A0 c0 r.1 ∧ I64 r.2.1 ∧ I64 r.2.2 ∧ True
theorem rh {Ab : Option Addr} {cb : Nat} {b : List UInt8} (hb : Sl ar Γ Ab b) (hbc : b.length ≤ cb) (at_ : Int) (hat_ : I64 at_) (hp : Pre [] Γ w0) {r : (List UInt8) × Int × Int} (h : me b at_ = some r) : Calls Tryz.prog 366 #[.slice Ab b.length cb, ii at_] w0 (Outc Γ [] w0 (qX r)) := by
 refine goV [4, 5, 6] func366 ntmps366 results366 hp fun F hF => ?_
 refine WC.rs (aV (k:=aV (k:=aV (k:=WR.done (WC.rs (mV (k:=mV (k:=?_))))))))
 obtain ⟨z1, hz2, h⟩ := bnd h
 refine vqV (caV call159) (fun w hw => kl (Γ := Gh.all w) (hb.mono hw.sat.le_all) hbc at_ hat_ (Sat.all w) hz2) (k:=mV (k:=sV exV (k:=sV exV (k:=sV exV (k:=aV (k:=aV (k:=aV (k:=?_))))))))
 refine WR.done (WC.seq (WC.rs (mV (k:=sV ci (k:=WR.done ?_)))))
 refine ciV h (fun hb3 h => ?_) (fun hb3 h => ?_)
 ·
  refine WC.rs (mV (k:=aV (k:=aV (k:=aV (k:=WR.done ?_)))))
  refine WC.ret ?_
  intro w hw
  have hw := hw.pad
  obtain ⟨hk4, h⟩ := ah h
  obtain rfl := Option.some.inj h
  subst hF
  exact bO (is := [0]) (by kernel_rfl) hw rfl ⟨none, 0, [], rfl, rfl, (Own.nil ar _ 5), iV, (dP hk4), trivial⟩
 refine WC.skip (wc_ (WC.seq (WC.rs (mV (k:=sV bJ (k:=WR.done ?_))))))
 refine ciV h (fun hb5 h => ?_) (fun hb5 h => ?_)
 ·
  refine WC.rs (aV (k:=aV (k:=aV (k:=WR.done ?_))))
  refine WC.ret ?_
  intro w hw
  have hw := hw.pad
  exact re_ r [0] h hF hw ⟨none, 0, [], rfl, rfl, (Own.nil ar _ 5), iV, iV, trivial⟩
 refine WC.skip (wc_ (WC.seq (WC.rs (mV (k:=sV (ai rfl underlying61) (k:=mV (k:=sV eI (k:=?_))))))))
 refine mV (k:=sV cK (k:=sV aI (k:=WR.done ?_)))
 refine ciV h (fun hb6 h => ?_) (fun hb6 h => ?_)
 ·
  refine WC.rs (aV (k:=aV (k:=aV (k:=WR.done ?_))))
  refine WC.ret ?_
  intro w hw
  have hw := hw.pad
  exact re_ r [0] h hF hw ⟨none, 0, [], rfl, rfl, (Own.nil ar _ 5), iV, iV, trivial⟩
 refine WC.skip (wc_ (WC.rs (mV (k:=mV (k:=sV cK (k:=mV (k:=sV cK (k:=?_))))))))
 refine mV (k:=sV cK (k:=?_))
 obtain ⟨hk7, h⟩ := ah h
 obtain ⟨hk8, h⟩ := ah h
 obtain ⟨hk9, h⟩ := ah h
 refine sV (wW (c := cb) (lo := (w64 (z1.2.1 + 4)).toNat) (hi := (w64 ((w64 (z1.2.1 + 4)) + z1.1)).toNat) (xs := b) underlying61 sizeOf5 rfl rfl (ww rfl hk8) (dp rfl hk7) (of_decide_eq_true hk9) (aY hk7) hbc) (k:=aV (k:=WR.done (WC.rs (mV (k:=mV (k:=mV (k:=?_)))))))
 obtain ⟨hk10, h⟩ := ah h
 obtain ⟨hk11, h⟩ := ah h
 obtain ⟨hk12, h⟩ := ah h
 refine sV (wW (c := cb) (lo := at_.toNat) (hi := z1.2.1.toNat) (xs := b) underlying61 sizeOf5 rfl rfl (ww rfl hk11) (dp rfl hk10) (of_decide_eq_true hk12) (aY hk10) hbc) (k:=mV (k:=?_))
 refine bsV #[.slice (if cb = at_.toNat then Ab else Option.map (fun a => a.add (at_.toNat * 1)) Ab) (List.drop at_.toNat (List.take z1.2.1.toNat b)).length (cb - at_.toNat), .slice (if cb = (w64 (z1.2.1 + 4)).toNat then Ab else Option.map (fun a => a.add (((w64 (z1.2.1 + 4)).toNat) * 1)) Ab) (List.drop ((w64 (z1.2.1 + 4)).toNat) (List.take ((w64 ((w64 (z1.2.1 + 4)) + z1.1)).toNat) b)).length (cb - (w64 (z1.2.1 + 4)).toNat)] 61 fun g13 => ?_
 have ho14 : Own (slT ar) Γ 61 [(g13, .cells #[.slice (if cb = at_.toNat then Ab else Option.map (fun a => a.add (at_.toNat * 1)) Ab) (List.drop at_.toNat (List.take z1.2.1.toNat b)).length (cb - at_.toNat), .slice (if cb = (w64 (z1.2.1 + 4)).toNat then Ab else Option.map (fun a => a.add (((w64 (z1.2.1 + 4)).toNat) * 1)) Ab) (List.drop ((w64 (z1.2.1 + 4)).toNat) (List.take ((w64 ((w64 (z1.2.1 + 4)) + z1.1)).toNat) b)).length (cb - (w64 (z1.2.1 + 4)).toNat)] 61 (0, 0))] (some ⟨g13, 0, none⟩) 2 [(List.drop at_.toNat (List.take z1.2.1.toNat b)), (List.drop ((w64 (z1.2.1 + 4)).toNat) (List.take ((w64 ((w64 (z1.2.1 + 4)) + z1.1)).toNat) b))] := Own.of_blockL (T := (slT ar)) (ys := [(List.drop at_.toNat (List.take z1.2.1.toNat b)), (List.drop ((w64 (z1.2.1 + 4)).toNat) (List.take ((w64 ((w64 (z1.2.1 + 4)) + z1.1)).toNat) b))]) [[.slice (if cb = at_.toNat then Ab else Option.map (fun a => a.add (at_.toNat * 1)) Ab) (List.drop at_.toNat (List.take z1.2.1.toNat b)).length (cb - at_.toNat)], [.slice (if cb = (w64 (z1.2.1 + 4)).toNat then Ab else Option.map (fun a => a.add (((w64 (z1.2.1 + 4)).toNat) * 1)) Ab) (List.drop ((w64 (z1.2.1 + 4)).toNat) (List.take ((w64 ((w64 (z1.2.1 + 4)) + z1.1)).toNat) b)).length (cb - (w64 (z1.2.1 + 4)).toNat)]] rfl (show 2 ≤ lim by decide) ⟨⟨(if cb = at_.toNat then Ab else Option.map (fun a => a.add (at_.toNat * 1)) Ab), (cb - at_.toNat), rfl, (po hbc at_.toNat z1.2.1.toNat), (hb.cut (cap := cb) (lo := at_.toNat) (hi := z1.2.1.toNat) (of_decide_eq_true hk12) (aY hk10) hbc)⟩, ⟨(if cb = (w64 (z1.2.1 + 4)).toNat then Ab else Option.map (fun a => a.add (((w64 (z1.2.1 + 4)).toNat) * 1)) Ab), (cb - (w64 (z1.2.1 + 4)).toNat), rfl, (po hbc ((w64 (z1.2.1 + 4)).toNat) ((w64 ((w64 (z1.2.1 + 4)) + z1.1)).toNat)), (hb.cut (cap := cb) (lo := (w64 (z1.2.1 + 4)).toNat) (hi := (w64 ((w64 (z1.2.1 + 4)) + z1.1)).toNat) (of_decide_eq_true hk9) (aY hk7) hbc)⟩, trivial⟩
 obtain ⟨z15, hz16, h⟩ := bnd h
 refine vqV (caV call378) (fun w hw => sD (Γ := Gh.all w) (ho14.sl hw.sat.le_all (hw.ra 0 rfl)) ho14.capz (Sat.all w) hz16) (k:=aV (k:=WR.done (WC.seq (WC.rs (mV (k:=WR.done (WC.block ?_)))))))
 refine WC.forU h (fun (i18 : Nat) (s : Unit) σ w => match s with | () => slots σ [(0, .slice Ab b.length cb), (7, ii z1.1), (8, ii z1.2.1), (10, .slice (if cb = (w64 (z1.2.1 + 4)).toNat then Ab else Option.map (fun a => a.add (((w64 (z1.2.1 + 4)).toNat) * 1)) Ab) (List.drop ((w64 (z1.2.1 + 4)).toNat) (List.take ((w64 ((w64 (z1.2.1 + 4)) + z1.1)).toNat) b)).length (cb - (w64 (z1.2.1 + 4)).toNat)), (11, .int .u32 z15), (47, ii (i18 : Int))] ∧ CC F Γ [] w ∧ True) ?_ ?_
 ·
  intro w hw
  exact ⟨slK, (hw.on []), trivial⟩
 rintro f17 i18 ⟨⟩ σ w hi19 hlt20 hge21 ⟨hsl, hw, -⟩
 refine slV hsl hw [] ?_; clear hw hsl
 refine WC.rs (sV aI (k:=WR.done (WC.seq ?_)))
 refine coV (fun hb22 => ?_) (fun hb22 => ?_)
 ·
  have hl23 := ilt hb22
  have h := hlt20 hl23
  refine WC.skip (wc_ (WC.seq (WC.block (WC.rs (mV (k:=aV (k:=WR.done ?_)))))))
  refine WC.seq ?_
  refine drV ?_
  refine zV moV (k:=zV moV (k:=zV moV (k:=zV cK (k:=?_))))
  obtain ⟨hk24, h⟩ := ah h
  refine zV (q_ix underlying61 sizeOf5 rfl rfl rfl hk24 (hb.some_ (cw hk24))) (k:=zV (q_ld (c := 0) (v := .int .u8 (((gt b ((w64 (z1.2.1 + (i18 : Int))).toNat)).toNat : Nat) : Int)) (hb.byteT_at (cw hk24)).2 rfl isAgg5 rfl rfl) (k:=zV moV (k:=zV moV (k:=zV iQ (k:=?_)))))
  obtain ⟨hk25, h⟩ := ah h
  refine zV (oE rfl rfl rfl hk25) (k:=zV (cj underlying5 underlying236) (k:=zV ci (k:=?_)))
  refine WQ.nil ?_
  change WC _ _ _ _ _ _
  refine ciV h (fun hb26 h => ?_) (fun hb26 h => ?_)
  ·
   refine WC.rs (aV (k:=aV (k:=aV (k:=WR.done ?_))))
   refine WC.ret ?_
   intro w hw
   have hw := hw.pad
   exact re_ r [0] h hF hw ⟨none, 0, [], rfl, rfl, (Own.nil ar _ 5), iV, iV, trivial⟩
  refine WC.skip (wc_ ?_)
  refine WC.region ?_
  refine sV (aK rfl rfl rfl (kD hl23 (by decide))) (k:=mV (k:=?_))
  refine WR.nil ?_
  intro w hw
  exact ⟨hl23, (), h, slK, hw, trivial⟩
 have h := hge21 (ige hb22)
 refine WC.exit ?_
 change WC _ _ _ _ _ _
 refine WC.rs ?_
 refine bsV #[] 5 fun g27 => ?_
 refine mV (k:=?_)
 have ho28 : Own ar Γ 5 [(g27, .cells #[] 5 (0, 0))] (some ⟨g27, 0, none⟩) 0 ([] : List UInt8) := Own.of_blockL (T := ar) (ys := ([] : List UInt8)) [] rfl (show 0 ≤ lim by decide) (show True from trivial)
 obtain ⟨hk29, h⟩ := ah h
 refine apV 0 ((List.drop ((w64 (z1.2.1 + 4)).toNat) (List.take ((w64 ((w64 (z1.2.1 + 4)) + z1.1)).toNat) b))) bq ho28 (of_decide_eq_true hk29) (fun w hw => jo (hb.cut (cap := cb) (lo := (w64 (z1.2.1 + 4)).toNat) (hi := (w64 ((w64 (z1.2.1 + 4)) + z1.1)).toNat) (of_decide_eq_true hk9) (aY hk7) hbc) hw) ?_
 intro row30 A31 c32 ho33
 refine mV (k:=sV cK (k:=mV (k:=sV cK (k:=aV (k:=aV (k:=aV (k:=WR.done ?_)))))))
 exact WC.ret fun w hw => re_ r [0] h hF hw ⟨A31, c32, row30, rfl, rfl, ho33, (dL _), iV, trivial⟩
abbrev mN (J : Gh → Rowb → ak → Prop) (lY : Nat) (gb0 : Nat) (Ab0v : Option Addr) (cb0v : Nat) (b0v : List UInt8) (gb1 : Nat) (gb1v : Nat) (b1v : Int) (r : ak × Int) (U : List Rowb) (Γ : Gh) (v : Value) : Prop := ∃ (rowsY' : Rowb), v = .tuple #[] ∧ U = [rowsY', [(gb0, .cells #[.slice Ab0v b0v.length cb0v] 61 (0, 0))], [(gb1, .cells #[.pointer (some ⟨gb1v, 0, none⟩)] 457 (0, 0))], [(gb1v, .cells #[.int .i64 r.2] 27 (0, 0))]] ∧ ak.ob J Γ lY rowsY' r.1 ∧ I64 r.2 ∧ True
theorem n3 {J : Gh → Rowb → ak → Prop} {Y : ak → List UInt8 → Int → Option ak} {lY : Nat} (hY : ∀ {Γ : Gh} {w : World} {row : Rowb} {s s' : ak} {Ay0_ : Option Addr} {cy0_ : Nat} {y0_ : List UInt8} (hy0_ : Sl ar Γ Ay0_ y0_) (hy0_c : y0_.length ≤ cy0_) (y1_ : Int) (hy1_ : I64 y1_) (hs : ak.ob J Γ lY row s) (hp : Pre [row] Γ w) (h : Y s y0_ y1_ = some s'), YieldAt (FR none) 0 Tryz.prog lY #[.slice Ay0_ y0_.length cy0_, ii y1_] w (Outc Γ [row] w fun U Δ v => ∃ row' : Rowb, v = .bool true ∧ U = [row'] ∧ ak.ob J Δ lY row' s')) {rowsY : Rowb} {sY : ak} (hsY : ak.ob J Γ lY rowsY sY) {gb0 : Nat} {Ab0v : Option Addr} {cb0v : Nat} {b0v : List UInt8} (hb0v : Sl ar Γ Ab0v b0v) (hb0vc : b0v.length ≤ cb0v) {gb1 : Nat} {gb1v : Nat} (b1v : Int) (hb1v : I64 b1v) (hp : Pre [rowsY, [(gb0, .cells #[.slice Ab0v b0v.length cb0v] 61 (0, 0))], [(gb1, .cells #[(pq gb1v)] 457 (0, 0))], [(gb1v, .cells #[ii b1v] 27 (0, 0))]] Γ w0) {r : ak × Int} (h : iS Y sY b0v b1v = some r) : Calls Tryz.prog 365 #[.func (.yield lY) #[] #[], (pq gb0), (pq gb1)] w0 (Outc Γ [rowsY, [(gb0, .cells #[.slice Ab0v b0v.length cb0v] 61 (0, 0))], [(gb1, .cells #[(pq gb1v)] 457 (0, 0))], [(gb1v, .cells #[ii b1v] 27 (0, 0))]] w0 (mN J lY gb0 Ab0v cb0v b0v gb1 gb1v b1v r)) := by
 refine goV [] func365 ntmps365 results365 hp fun F hF => ?_
 refine WC.rs (aV (k:=WR.done (WC.block ?_)))
 refine WC.loopN h (fun (s : Int × Int × ak) σ w => match s with | (at_3, x5, o7) => ∃ (Γ1 : Gh), ∃ (row8 : Rowb), slots σ [(0, .func (.yield lY) #[] #[]), (1, (pq gb0)), (2, (pq gb1)), (4, ii at_3)] ∧ CC F Γ1 [row8, [(gb0, .cells #[.slice Ab0v b0v.length cb0v] 61 (0, 0))], [(gb1, .cells #[(pq gb1v)] 457 (0, 0))], [(gb1v, .cells #[ii x5] 27 (0, 0))]] w ∧ Gh.le Γ Γ1 ∧ I64 at_3 ∧ I64 x5 ∧ ak.ob J Γ1 lY row8 o7 ∧ True) ?_ ?_
 ·
  intro w hw
  exact ⟨Γ, rowsY, slK, hw, gR, iV, hb1v, hsY, trivial⟩
 rintro f10 ⟨at_3, x5, o7⟩ σ w h ⟨Γ1, row8, hsl, hw, hl2, hr4, hr6, ho9, -⟩
 refine slV hsl hw [_, _, _, _] ?_; clear hw hsl
 refine WC.seq (WC.rs (mV (k:=sV (ldV 1 isAgg61) (k:=sV (ai rfl underlying61) (k:=sV aI (k:=WR.done ?_))))))
 refine ciV h (fun hb14 h => ?_) (fun hb14 h => ?_)
 ·
  refine WC.skip (wc_ (WC.block (WC.rs (sV (ldV 1 isAgg61) (k:=mV (k:=?_))))))
  obtain ⟨z15, hz16, h⟩ := bnd h
  refine ecV [] (caV call366) (fun w hp => rh (hb0v.mono hl2) hb0vc at_3 hr4 hp hz16) ?_
  rintro Γ17 _ _ hl18 ⟨A21, c22, row23, rfl, rfl, hr24, hr25, hr26, _⟩
  refine cwV 15 [_, _, _, _, _] (mV (k:=sV exV (k:=sV exV (k:=sV exV (k:=aV (k:=aV (k:=aV (k:=?_))))))))
  refine WR.done (WC.rs (sV (ldV 3 isAgg457) (k:=mV (k:=sV nlV (k:=stV 4 (ii z15.2.2) #[ii z15.2.2] sizeOf27 (k:=WR.done (WC.seq ?_)))))))
  refine WC.seq ?_
  refine WC.ofI (WCI.region ?_)
  refine WI.op (fun _ h => nomatch h) ?_
  refine mV (k:=?_)
  refine WI.nx ?_
  refine WI.op (fun _ h => nomatch h) ?_
  refine sV ci (k:=?_)
  refine WI.nx ?_
  refine WI.op (fun _ h => nomatch h) ?_
  refine mV (k:=?_)
  refine WI.nx ?_
  refine WI.op (fun _ h => nomatch h) ?_
  refine vG0 (h:=fun hg27 => cI (v := .func (.yield lY) #[] #[]) rfl (by kernel_rfl)) (k:=?_)
  refine WI.nx ?_
  refine WI.op (fun _ h => nomatch h) ?_
  refine vG0 (h:=fun hg28 => moV) (k:=?_)
  refine WI.nx ?_
  refine WI.op (fun _ h => nomatch h) ?_
  refine vG0 (h:=fun hg29 => moV) (k:=?_)
  refine WI.nx ?_
  refine (Bool.eq_false_or_eq_true (!(z15.2.2 != 0))).elim (fun hb30 => ?_) (fun hb30 => ?_)
  ·
   have h := bt hb30 h
   refine WI.sat (c0 := true) (g := (z15.2.2 != 0)) rfl rfl rfl hb30 ?_
   have hc35 := hr24.capz
   intro w hw; obtain ⟨Γ31, hw, hl32, hr33⟩ := hw.seal (i := 0) rfl; have hs34 := hr24.sl hl32 hr33
   refine WI.here (C := CC F Γ31 [[], row8, [(gb0, .cells #[.slice Ab0v b0v.length cb0v] 61 (0, 0))], [(gb1, .cells #[(pq gb1v)] 457 (0, 0))], [(gb1v, .cells #[ii z15.2.2] 27 (0, 0))]]) ?_ hw
   clear hw
   obtain ⟨z36, hz37, h⟩ := bnd h
   refine WI.yield (is := [1]) rfl rfl (fun _ h => nomatch h) (pJ rfl (grV hb30) (u7 (grV hb30) (grV hb30))) rfl (fun w hp => hY hs34 hc35 z15.2.1 hr25 (ho9.mono (hl18.trans hl32)) hp hz37) ?_
   rintro Γ38 _ _ hl39 ⟨row42, rfl, rfl, hr43⟩
   change WI _ _ _ _ (CC F Γ38 [row42, [], [(gb0, .cells #[.slice Ab0v b0v.length cb0v] 61 (0, 0))], [(gb1, .cells #[(pq gb1v)] 457 (0, 0))], [(gb1v, .cells #[ii z15.2.2] 27 (0, 0))]]) _ _ (upd _ 28 (.bool true))
   refine WI.sat (c0 := true) (g := (z15.2.2 != 0)) rfl rfl rfl hb30 ?_
   refine WI.op (fun _ h => nomatch h) ?_
   refine sV dJ (k:=?_)
   refine WI.nx ?_
   refine WI.op (fun _ h => nomatch h) ?_
   refine sV (iR (v := .bool (!true)) rfl rfl (vS hb30) (by kernel_rfl)) (k:=?_)
   refine WI.nx ?_
   refine WI.nil ?_
   change WC _ _ _ _ _ _
   refine WC.cfk (b := (!true)) (by kernel_rfl) (nott rfl) ?_
   refine WC.skip (wc_ ?_)
   refine WC.region ?_
   refine mV (k:=aV (k:=?_))
   refine WR.nil ?_
   intro w hw
   exact ⟨(z15.2.1, z15.2.2, z36), h, Γ38, row42, slK, (hw.on [0, 1, 1, 1]), (((hl2.trans hl18).trans hl32).trans hl39), hr25, hr26, hr43, trivial⟩
  have h := bf hb30 h
  refine WI.op (fun _ h => nomatch h) ?_
  refine WR.unsat (c0 := true) (g := (z15.2.2 != 0)) rfl rfl rfl hb30 rfl ?_
  refine WI.nx ?_
  refine WI.op (fun _ h => nomatch h) ?_
  refine WR.unsat (c0 := true) (g := (z15.2.2 != 0)) rfl rfl rfl hb30 rfl ?_
  refine WI.nx ?_
  refine WI.op (fun _ h => nomatch h) ?_
  refine sV (k6 (v := .bool true) rfl rfl (wi hb30) (by kernel_rfl)) (k:=?_)
  refine WI.nx ?_
  refine WI.nil ?_
  change WC _ _ _ _ _ _
  refine WC.ctk (b := true) (by kernel_rfl) rfl ?_
  exact WC.ret fun w hw => re_ r [1, 1, 1, 1] h hF hw ⟨row8, rfl, rfl, (ho9.mono hl18), hr26, trivial⟩
 refine WC.exit ?_
 intro w hw
 obtain rfl := Option.some.inj h
 subst hF
 exact bO (is := [0, 0, 0, 0]) (by kernel_rfl) hw rfl ⟨row8, rfl, rfl, ho9, hr6, trivial⟩
def JAll (l gout gat : Nat) (rec : Loop) (Γ : Gh) (row : Rowb) (s : ak) : Prop := ∃ (A : Option Addr) (c : Nat) (rowo : Rowb), row = ([[(l, .loop rec)], [(gout, .cells #[.slice A s.1.length c] 69 (0, 0))], [(gat, .cells #[.int .i64 s.2] 3 (0, 0))], rowo] : List Rowb).flatten ∧ Own (slT ar) Γ 61 rowo A c s.1 ∧ I64 s.2
theorem pc {A : Option Addr} {c : Nat} {b : List UInt8} (ge : Nat) (hp : Pre [] Γ w0) : Calls Tryz.prog 307 #[.slice A b.length c, (pq ge)] w0 (Outc Γ [] w0 (fun U Δ v => ∃ g1 g2 : Nat, v = .func (.func 365) #[] #[(pq g1), (pq g2)] ∧ U = [[(g1, .cells #[.slice A b.length c] 61 (0, 0))], [(g2, .cells #[(pq ge)] 457 (0, 0))]])) := by
 refine goV [4] func307 ntmps307 results307 hp fun F hF => ?_
 refine WC.rs ?_
 refine bxV (v := .slice A b.length c) fun g1 => ?_
 refine bxV (v := (pq ge)) fun g2 => ?_
 refine aU (v := .nilFunc) (k:=?_)
 refine WR.nil ?_
 change WC _ _ _ _ _ _
 refine WC.rs (sV (jG (v := .func (.func 365) #[] #[(pq g1), (pq g2)]) rfl (by kernel_rfl)) (k:=aU (v := .func (.func 365) #[] #[(pq g1), (pq g2)]) (k:=?_)))
 refine WR.nil ?_
 change WC _ _ _ _ _ _
 refine WC.ret ?_
 intro w hw
 subst hF
 exact bO (is := [1, 0]) (by kernel_rfl) hw rfl ⟨g1, g2, rfl, rfl⟩
abbrev rH (r : List (List UInt8) × Int × Int) (U : List Rowb) (Γ : Gh) (v : Value) : Prop := ∃ (A0 : Option Addr), ∃ (c0 : Nat), ∃ (row0 : Rowb), v = .tuple #[.slice A0 r.1.length c0, .int .i64 r.2.1, .int .i64 r.2.2] ∧ U = [row0] ∧ Own (slT ar) Γ 61 row0 A0 c0 r.1 ∧ I64 r.2.1 ∧ I64 r.2.2 ∧ True
set_option maxRecDepth 100000 in
set_option maxHeartbeats 800000 in
theorem nk {Γ : Gh} {w0 : World} {Ab : Option Addr} {cb : Nat} {b : List UInt8} (hb : Sl ar Γ Ab b) (hbc : b.length ≤ cb) (hp : Pre [] Γ w0) {r : List (List UInt8) × Int × Int} (h : jO b = some r) : Calls Tryz.prog 231 #[.slice Ab b.length cb] w0 (Outc Γ [] w0 (rH r)) := by
 obtain ⟨z, hz, h⟩ := bnd h
 obtain rfl := Option.some.inj h
 refine ql (n := 22) (rs := [2, 3, 4]) (args := [.slice Ab b.length cb]) func231 rfl ntmps231 results231 rfl ?_
 obtain ⟨F, hF⟩ : ∃ F : Fm, F = ⟨ids [], w0, Γ⟩ := ⟨_, rfl⟩
 refine WC2.here (C := CC F Γ []) ?_ (hF ▸ hp.start)
 refine WC2.seq ?_
 refine WC.region ?_
 refine aV (k:=aV (k:=aV (k:=?_)))
 refine WR.nil ?_
 change WC2 _ _ _ _ _ _
 refine WC2.seq ?_
 refine WC.region ?_
 refine alV zeroValue69 fun gout => ?_
 refine WR.nil ?_
 change WC2 _ _ _ _ _ _
 refine WC2.seq ?_
 refine WC.region ?_
 refine alV zeroValue27 fun ge => ?_
 refine WR.nil ?_
 change WC2 _ _ _ _ _ _
 refine WC2.seq ?_
 refine WC.region ?_
 refine alV zeroValue3 fun gat => ?_
 refine stV 0 (ii 0) #[ii 0] sizeOf3 (k:=?_)
 refine WR.nil ?_
 change WC2 _ _ _ _ _ _
 refine WC2.seq3 ?_
 refine WC.region ?_
 refine mV (k:=?_)
 refine ecV [] (caV call307) (fun w hp => pc (A := Ab) (c := cb) (b := b) ge hp) ?_
 rintro Γ1 _ _ hl1 ⟨g1, g2, rfl, rfl⟩
 refine cwV 11 [_, _, _, _, _] ?_
 refine WR.nil ?_
 change WC3 _ _ _ _ _ _ _
 refine WC3.rangeF (n := 22) (gf := 365) (lb := #[(pq g1), (pq g2)]) (by kernel_rfl) call365 ?_
 intro l D rec w hst hpe hps has hbo hagr hw
 have hY : ∀ {Γ : Gh} {w : World} {row : Rowb} {s s' : ak} {Ay0_ : Option Addr} {cy0_ : Nat} {y0_ : List UInt8} (hy0_ : Sl ar Γ Ay0_ y0_) (hy0_c : y0_.length ≤ cy0_) (y1_ : Int) (hy1_ : I64 y1_) (hs : ak.ob (JAll l gout gat rec) Γ l row s) (hp : Pre [row] Γ w) (h : iw s y0_ y1_ = some s'),
   YieldAt (FR none) 0 Tryz.prog l #[.slice Ay0_ y0_.length cy0_, ii y1_] w (Outc Γ [row] w fun U Δ v => ∃ row' : Rowb, v = .bool true ∧ U = [row'] ∧ ak.ob (JAll l gout gat rec) Δ l row' s') := by
  intro Γ w row s s' A c y0 h0 h0c y1 h1 hs hp h
  obtain ⟨hk, h⟩ := ah h
  obtain rfl := Option.some.inj h
  obtain ⟨Γ', hle, Ao, co, rowo, rfl, ho, hi⟩ := hs
  have ho := ho.mono hle
  refine YieldAt.mono (R := Outc Γ [[(l, .loop rec)], [(gout, .cells #[.slice Ao s.1.length co] 69 (0, 0))], [(gat, .cells #[ii s.2] 3 (0, 0))], rowo] w fun U Δ v => ∃ A2 c2 row2, v = .bool true ∧ U = [[(l, .loop rec)], [(gout, .cells #[.slice A2 (s.1 ++ [y0]).length c2] 69 (0, 0))], [(gat, .cells #[ii y1] 3 (0, 0))], row2] ∧ Own (slT ar) Δ 61 row2 A2 c2 (s.1 ++ [y0])) ?_ ?_
  ·
   refine se has hbo hp.parts hst hpe (by rw [hps]; rfl) (N := ⟨22, []⟩) (σ1 := _) (by rw [hps]; exact hagr.par2 rfl rfl) ?_
   intro F hF
   refine WCI.rs ?_
   refine WI.op (fun _ h => nomatch h) ?_
   refine aV (k:=?_)
   refine WI.nx ?_
   refine WI.done ?_
   refine WCI.region ?_
   refine WI.op (fun _ h => nomatch h) ?_
   refine aV (k:=?_)
   refine WI.nx ?_
   refine WI.nil ?_
   intro w hw
   refine ⟨Γ, _, hw, ?_⟩
   refine WCI.block ?_
   refine WCI.rs ?_
   refine WI.op (fun _ h => nomatch h) ?_
   refine sV (ldV 1 isAgg69) (k:=?_)
   refine WI.nx ?_
   refine WI.op (fun _ h => nomatch h) ?_
   refine mV (k:=?_)
   refine WI.nx ?_
   refine WI.op (fun _ h => nomatch h) ?_
   refine bsV #[.slice A y0.length c] 61 fun gb => ?_
   refine WI.nx ?_
   refine WI.op (fun _ h => nomatch h) ?_
   refine apV 4 [y0] tE ho (of_decide_eq_true hk) (fun w hw => bw (i := 0) rfl (by exact ⟨A, c, rfl, h0c, h0⟩) hw) ?_
   intro row2 A2 c2 ho2
   refine WI.nx ?_
   refine WI.op (fun _ h => nomatch h) ?_
   refine stV 2 (.slice A2 (s.1 ++ [y0]).length c2) #[.slice A2 (s.1 ++ [y0]).length c2] sizeOf69 (k:=?_)
   refine WI.nx ?_
   refine WI.done ?_
   refine WCI.region ?_
   refine WI.op (fun _ h => nomatch h) ?_
   refine mV (k:=?_)
   refine WI.nx ?_
   refine WI.op (fun _ h => nomatch h) ?_
   refine stV 3 (ii y1) #[ii y1] sizeOf3 (k:=?_)
   refine WI.nx ?_
   refine WI.nil ?_
   intro w hw
   exact ⟨Γ, _, hw.on [1, 1, 1, 1], A2, c2, row2, rfl, rfl, ho2⟩
  rintro e w2 ⟨v, rfl, Δ, U, he, A2, c2, row2, rfl, rfl, ho2⟩
  exact ⟨_, rfl, Δ, _, he.glue, _, rfl, rfl, YS.of ⟨A2, c2, row2, rfl, ho2, h1⟩⟩
 have hw := hw.pad
 have h2 := hw.fold (is := [1, 6, 4, 0]) rfl rfl
 have h3 : Cur F Γ1 ([([[(l, .loop rec)], [(gout, .cells #[.slice none 0 0] 69 (0, 0))], [(gat, .cells #[ii 0] 3 (0, 0))], []] : List Rowb).flatten, [(g1, .cells #[.slice Ab b.length cb] 61 (0, 0))], [(g2, .cells #[(pq ge)] 457 (0, 0))], [(ge, .cells #[ii 0] 27 (0, 0))]] ++ [[(D, .deferred (some []))]]) w := h2.pick (is := [0, 1, 1, 1]) rfl
 refine (n3 (J := JAll l gout gat rec) (Y := iw) (lY := l) (sY := ([], 0)) hY (YS.of ⟨none, 0, [], rfl, Own.nil _ _ _, show I64 0 by decide⟩) (hb.mono hl1) hbc 0 iV (h2.only (is := [0, 1, 1, 1]) rfl).pre hz).mono ?_
 rintro e w' ⟨v, rfl, Δ, U', he, rowY', rfl, rfl, hJ', he2, -⟩
 have h4 := h3.eff he
 obtain ⟨Γ', hle, A', c', rowo', hrow, ho', hi'⟩ := hJ'
 have h5 := h4.unfold (i := 0) rfl hrow
 refine ⟨_, rfl, Δ, [[(gout, .cells #[.slice A' z.1.1.length c'] 69 (0, 0))], [(gat, .cells #[ii z.1.2] 3 (0, 0))], rowo', [(ge, .cells #[ii z.2] 27 (0, 0))]], h5.only (is := [0, 6, 0, 0, 0, 2]) rfl, ?_⟩
 refine WC2.of ?_
 refine WC.seq ?_
 refine drV ?_
 refine zV (ldV 1 isAgg69) (k:=zV (ldV 2 isAgg3) (k:=zV (ldV 4 isAgg27) (k:=zV aoV (k:=zV aoV (k:=zV aoV (k:=?_))))))
 refine WQ.nil ?_
 change WC _ _ _ _ _ _
 refine WC.ret ?_
 intro w hw
 subst hF
 exact yx (N := ⟨22, []⟩) (is := [2]) (by kernel_rfl) hw rfl ⟨A', c', rowo', rfl, rfl, ho'.mono hle, hi', he2, trivial⟩
abbrev r_seglog_place_holds (edk0 : Nat) (gp__0 : Nat) (rowdk0 : Rowb) (r : Int × Int × Int) (U : List Rowb) (Γ : Gh) (v : Value) : Prop := v = .tuple #[.int .i64 r.1, .int .i64 r.2.1, .int .i64 r.2.2] ∧ U = [rowdk0] ∧ I64 r.1 ∧ I64 r.2.1 ∧ I64 r.2.2 ∧ True
theorem t_seglog_place_holds {gp__0 : Nat} (p__1 : ByteArray) (hp__1 : p__1.size ≤ lim) (p__2 : Int) (hp__2 : I64 p__2) {edk0 : Nat} {rowdk0 : Rowb} {dk0 : aa} (hdk0 : aa.ob edk0 Γ gp__0 rowdk0 dk0) (hp : Pre [rowdk0] Γ w0) {r : Int × Int × Int} (h : m_seglog_place_holds p__1 p__2 dk0 = some r) : Calls Tryz.prog 131 #[.agg #[(pq gp__0), .string p__1, ii p__2]] w0 (Outc Γ [rowdk0] w0 (r_seglog_place_holds edk0 gp__0 rowdk0 r)) := by
 refine goV [2, 3, 4] func131 ntmps131 results131 hp fun F hF => ?_
 refine WC.rs ?_
 refine bxV (v := .agg #[(pq gp__0), .string p__1, ii p__2]) fun g1 => ?_
 refine aV (k:=aV (k:=aV (k:=WR.done (WC.seq ?_))))
 refine leV fun h02 => ?_
 refine dM (CC F Γ [[(g1, .cells #[(pq gp__0), .string p__1, ii p__2] 240 (0, 0))]]) (bo_ [0] gR h02) fun k => ?_
 change WH _ _ _ _ (CC F Γ [_, _]) _ 10 _ _
 refine hV 0 k (q:=q_fl 0 gx) (k:=hV 1 k (q:=ldV 0 isAgg30) (k:=hV 2 k (q:=ldaV 0 [(pq gp__0), .string p__1, ii p__2] isAgg240 sizeOf240) (k:=wl_ 3 rfl ?_)))
 obtain ⟨z3, hz4, h⟩ := bnd h
 refine vqV (caV call134) (fun w hw => gg (Γ := Gh.all w) (gp__0 := gp__0) p__1 hp__1 p__2 hp__2 (Sat.all w) hz4) (k:=?_)
 refine WR.nil (nxV (bo_ [0] gR h02) fun k => ?_)
 refine wl_ 4 rfl ?_
 obtain ⟨hk5, h⟩ := ah h
 obtain ⟨z6, hz7, h⟩ := bnd h
 refine ecV [1] (caV call230) (fun w hp => fw hdk0 z3 (of_decide_eq_true hk5) hp hz7) ?_
 rintro Γ8 _ _ hl9 ⟨A12, c13, row14, rfl, rfl, hr15, _⟩
 refine cwV 21 [_, _, _] ?_
 refine WR.nil (nxV (bo_ [2] hl9 h02) fun k => ?_)
 refine hV 5 k (q:=moV) (k:=hV 6 k (q:=exV) (k:=hV 7 k (q:=exV) (k:=hV 8 k (q:=aoV) (k:=hV 9 k (q:=aoV) (k:=?_)))))
 refine WH.done (by kernel_rfl) ?_
 change WC _ _ _ _ _ _
 refine WC.rs (mV (k:=?_))
 have hc20 := hr15.capz
 refine seR 1 [_, _, _] fun Γ16 hl17 hr18 => ?_
 have hs19 := hr15.sl hl17 hr18
 obtain ⟨z21, hz22, h⟩ := bnd h
 refine ecV [] (caV call231) (fun w hp => nk hs19 hc20 hp hz22) ?_
 rintro Γ23 _ _ hl24 ⟨A27, c28, row29, rfl, rfl, hr30, hr31, hr32, _⟩
 refine cwV 26 [_, _, _, _] (mV (k:=sV exV (k:=sV exV (k:=sV exV (k:=aV (k:=aV (k:=aV (k:=?_))))))))
 refine WR.done (WC.rs (aV (k:=WR.done (WC.seq (WC.rs (mV (k:=sV (ai rfl underlying69) (k:=?_))))))))
 refine mV (k:=WR.done (WC.block ?_))
 refine WC.forI h (fun (i35 : Nat) (gen_33 : Int) σ w => slots σ [(8, ii z21.2.1), (10, ii gen_33), (30, .slice A27 z21.1.length c28), (31, ii (z21.1.length : Int)), (32, ii (i35 : Int))] ∧ CC F Γ23 [row29, rowdk0] w ∧ True) ?_ ?_
 ·
  intro w hw
  exact ⟨slK, (hw.on [0, 0]), trivial⟩
 rintro f34 i35 gen_33 σ w hi36 hlt37 hge38 ⟨hsl, hw, -⟩
 refine slV hsl hw [_, _] ?_; clear hw hsl
 refine WC.rs (sV aI (k:=WR.done (WC.seq ?_)))
 refine coV (fun hb39 => ?_) (fun hb39 => ?_)
 ·
  have hl40 := ilt hb39
  have h := hlt37 hl40
  refine WC.skip (wc_ (WC.seq (WC.block (WC.rs (sV (bB (i := i35) underlying69 sizeOf61 rfl rfl rfl hl40 (hr30.some_ hl40)) (k:=?_))))))
  obtain ⟨A41, c42, hx43⟩ := hr30.slT_at i35
  refine sV (nw (c := 0) (v := .slice A41 (gt z21.1 i35).length c42) (i := 0) rfl (hx43 hl40).2 rfl isAgg61 rfl rfl) (k:=aV (k:=WR.done (WC.rs (mV (k:=?_)))))
  obtain ⟨z44, hz45, h⟩ := bnd h
  refine vqV (caV call159) (fun w hw => kl (Γ := Gh.all w) ((hx43 hl40).1.2.mono hw.sat.le_all) (hx43 hl40).1.1 0 iV (Sat.all w) hz45) (k:=mV (k:=sV exV (k:=sV exV (k:=sV exV (k:=aV (k:=aV (k:=aV (k:=?_))))))))
  refine WR.done (WC.seq (WC.rs (mV (k:=sV ci (k:=mV (k:=vG0 (h:=fun hg46 => moV) (k:=vG0 (h:=fun hg47 => moV) (k:=?_))))))))
  refine vG0 (h:=fun hg48 => ai rfl underlying61 (grV hg48)) (k:=vG0 (h:=fun hg49 => ci rfl (grV hg49) (grV hg49)) (k:=sV pkO (k:=mV (k:=vG0 (h:=fun hg50 => moV) (k:=vG0 (h:=fun hg51 => aI rfl (grV hg51)) (k:=sV pkO (k:=mV (k:=?_))))))))
  refine vG0 (h:=fun hg52 => moV) (k:=vG0 (h:=fun hg53 => bJ rfl (grV hg53)) (k:=sV pkO (k:=WR.done ?_)))
  refine ciV h (fun hb54 h => ?_) (fun hb54 h => ?_)
  ·
   refine WC.rs (aV (k:=aV (k:=aV (k:=WR.done ?_))))
   exact WC.ret fun w hw => re_ r [1] h hF hw ⟨rfl, rfl, iV, iV, iV, trivial⟩
  refine WC.skip (wc_ ?_)
  refine WC.region ?_
  refine mV (k:=aV (k:=?_))
  refine WR.nil ?_
  change WC _ _ _ _ _ _
  refine WC.region ?_
  refine sV (aK rfl rfl rfl (bx hl40 hr30.le)) (k:=mV (k:=?_))
  refine WR.nil ?_
  intro w hw
  exact ⟨hl40, z44.1, h, slK, hw, trivial⟩
 have h := hge38 (ige hb39)
 refine WC.exit ?_
 change WC _ _ _ _ _ _
 refine WC.rs (mV (k:=mV (k:=aV (k:=aV (k:=aV (k:=WR.done ?_))))))
 refine WC.ret ?_
 intro w hw
 obtain ⟨hk55, h⟩ := ah h
 obtain rfl := Option.some.inj h
 subst hF
 exact bO (is := [1]) (by kernel_rfl) hw rfl ⟨rfl, rfl, (dP hk55), hr31, iV, trivial⟩
theorem ie {gd ed : Nat} {rowd : Rowb} {d : aa} (hd : aa.ob ed Γ gd rowd d) (hdr : ∀ p ∈ rowd, Γ p.1 = some p.2) (hs : Sat Γ w0) {r : Int} (h : eU d = some r) : CQ Tryz.prog 132 #[(pq gd)] w0 (ii r) := by
 refine goQ [2] func132 ntmps132 results132 hs fun F hF => ?_
 refine WC.rs (aV (k:=WR.done (WC.rs (mV (k:=sV nlV (k:=sV (q_fl 3 j0) (k:=?_)))))))
 obtain ⟨m1_1, r1_1, m2_1, r2_1, A3_1, c3_1, r3_1, hrow_1, ho0_1, ho1_1, ho2_1, ho3_1, -⟩ := id hd
 have hg_2 : ∀ u ∈ ([[(gd, .cells #[ii d.room, .map (some m1_1), .map (some m2_1), .slice A3_1 d.loose.length c3_1] ed (0, 0))], r1_1, r2_1, r3_1] : List Rowb), ∀ p ∈ u, Γ p.1 = some p.2 := fun u hu p hp => (fun p hp => (hdr p hp)) p (hrow_1 ▸ List.mem_flatten.2 ⟨u, hu, hp⟩)
 have hgc3 := hg_2 _ (List.mem_cons_self ..) (gd, _) (List.mem_singleton.2 rfl)
 have hgs4 := hg_2 r1_1 (by simp)
 have hgs5 := hg_2 r2_1 (by simp)
 have hgs6 := hg_2 r3_1 (by simp)
 have hs7 := ho3_1.sl gR hgs6
 refine sV (lC (v := .slice A3_1 d.loose.length c3_1) hgc3 rfl isAgg103 rfl rfl) (k:=sV (ai rfl underlying103) (k:=aV (k:=WR.done ?_)))
 exact WC.ret fun w hw => rq_ r h hF hw
theorem r8 {Anames : Option Addr} {cnames : Nat} {names : List ByteArray} (hnames : Sl strT Γ Anames names) (hnamesc : names.length ≤ cnames) (hs : Sat Γ w0) {r : Bool} (h : lH names = some r) : CQ Tryz.prog 367 #[.slice Anames names.length cnames] w0 (.bool r) := by
 refine goQ [2] func367 ntmps367 results367 hs fun F hF => ?_
 refine WC.rs (aV (k:=WR.done (WC.seq (WC.rs (mV (k:=sV (ai rfl underlying35) (k:=mV (k:=?_))))))))
 refine WR.done (WC.block ?_)
 refine WC.forI h (fun (i2 : Nat) (s : Unit) σ w => match s with | () => slots σ [(5, .slice Anames names.length cnames), (6, ii (names.length : Int)), (7, ii (i2 : Int))] ∧ CC F Γ [] w ∧ True) ?_ ?_
 ·
  intro w hw
  exact ⟨slK, hw, trivial⟩
 rintro f1 i2 ⟨⟩ σ w hi3 hlt4 hge5 ⟨hsl, hw, -⟩
 refine slV hsl hw [] ?_; clear hw hsl
 refine WC.rs (sV aI (k:=WR.done (WC.seq ?_)))
 refine coV (fun hb6 => ?_) (fun hb6 => ?_)
 ·
  have hl7 := ilt hb6
  have h := hlt4 hl7
  refine WC.skip (wc_ (WC.seq (WC.block (WC.rs (sV (bB (i := i2) underlying35 sizeOf9 rfl rfl rfl hl7 (hnames.some_ hl7)) (k:=sV (q_ld (c := 0) (v := .string (gt names i2)) (hnames.strT_at hl7).2 rfl isAgg9 rfl rfl) (k:=aV (k:=?_))))))))
  refine WR.done (WC.rs (mV (k:=sV (aQ rfl underlying9) (k:=sV aI (k:=mV (k:=vG0 (h:=fun hg8 => moV) (k:=vG0 (h:=fun hg9 => aQ rfl underlying9 (grV hg9)) (k:=?_))))))))
  refine vG0 (h:=fun hg10 => bJ rfl (grV hg10)) (k:=sV pkO (k:=WR.done ?_))
  refine ciV h (fun hb11 h => ?_) (fun hb11 h => ?_)
  ·
   refine WC.rs (aV (k:=WR.done ?_))
   exact WC.ret fun w hw => rq_ r h hF hw
  refine WC.skip (wc_ ?_)
  refine WC.region ?_
  refine sV (aK rfl rfl rfl (bx hl7 hnames.le)) (k:=mV (k:=?_))
  refine WR.nil ?_
  intro w hw
  exact ⟨hl7, (), h, slK, hw, trivial⟩
 have h := hge5 (ige hb6)
 refine WC.exit ?_
 change WC _ _ _ _ _ _
 refine WC.rs (aV (k:=WR.done ?_))
 exact WC.ret fun w hw => rq_ r h hF hw
theorem hZ {gd ed : Nat} {rowd : Rowb} {d : aa} (hd : aa.ob ed Γ gd rowd d) (hdr : ∀ p ∈ rowd, Γ p.1 = some p.2) (name : ByteArray) (hname : name.size ≤ lim) (hs : Sat Γ w0) {r : Int} (h : eP d name = some r) : CQ Tryz.prog 308 #[(pq gd), .string name] w0 (ii r) := by
 refine goQ [4] func308 ntmps308 results308 hs fun F hF => ?_
 refine WC.rs (aV (k:=WR.done (WC.seq (WC.rs (mV (k:=?_))))))
 refine bsV #[.string name] 9 fun g1 => ?_
 have ho2 : Own strT Γ 9 [(g1, .cells #[.string name] 9 (0, 0))] (some ⟨g1, 0, none⟩) 1 [name] := Own.of_blockL (T := strT) (ys := [name]) [[.string name]] rfl (show 1 ≤ lim by decide) ⟨⟨rfl, hname⟩, trivial⟩
 obtain ⟨z3, hz4, h⟩ := bnd h
 refine vqV (caV call367) (fun w hw => r8 (Γ := Gh.all w) (ho2.sl hw.sat.le_all (hw.ra 0 rfl)) ho2.capz (Sat.all w) hz4) (k:=sV dJ (k:=WR.done ?_))
 refine ciV h (fun hb5 h => ?_) (fun hb5 h => ?_)
 ·
  refine WC.rs (aV (k:=WR.done ?_))
  exact WC.ret fun w hw => rq_ r h hF hw
 refine WC.skip (wc_ (WC.seq (WC.rs (mV (k:=sV nlV (k:=sV (q_fl 2 gD) (k:=?_)))))))
 obtain ⟨m1_6, r1_6, m2_6, r2_6, A3_6, c3_6, r3_6, hrow_6, ho0_6, ho1_6, ho2_6, ho3_6, -⟩ := id hd
 have hg_7 : ∀ u ∈ ([[(gd, .cells #[ii d.room, .map (some m1_6), .map (some m2_6), .slice A3_6 d.loose.length c3_6] ed (0, 0))], r1_6, r2_6, r3_6] : List Rowb), ∀ p ∈ u, Γ p.1 = some p.2 := fun u hu p hp => (fun p hp => (hdr p hp)) p (hrow_6 ▸ List.mem_flatten.2 ⟨u, hu, hp⟩)
 have hgc8 := hg_7 _ (List.mem_cons_self ..) (gd, _) (List.mem_singleton.2 rfl)
 have hgs9 := hg_7 r1_6 (by simp)
 have hgs10 := hg_7 r2_6 (by simp)
 have hgs11 := hg_7 r3_6 (by simp)
 have hs12 := ho3_6.sl gR hgs11
 refine sV (lC (v := .map (some m2_6)) hgc8 rfl isAgg102 rfl rfl) (k:=mV (k:=?_))
 obtain ⟨v13, ⟨A16, c17, hv14, hc18, hs19⟩, hat15⟩ := MapO.look ho2_6 name (z := .slice none 0 0) (zx := []) ⟨none, 0, rfl, Nat.zero_le _, Sl.nil _ _ _⟩
 obtain rfl : v13 = _ := List.cons.inj hv14 |>.1
 refine sV (sZ (v := .slice A16 ((mget name d.seen).getD []).length c17) (fun p hp => (hgs10 p hp)) hat15 rfl underlying102 zeroValue61 rfl rfl) (k:=mV (k:=sV exV (k:=sV exV (k:=aV (k:=aV (k:=WR.done (WC.rs ?_)))))))
 refine mV (k:=sV dJ (k:=WR.done ?_))
 refine ciV h (fun hb20 h => ?_) (fun hb20 h => ?_)
 ·
  refine WC.rs (aV (k:=WR.done ?_))
  exact WC.ret fun w hw => rq_ r h hF hw
 refine WC.skip (wc_ (WC.rs (aV (k:=WR.done ?_))))
 exact WC.ret fun w hw => rq_ r h hF hw
abbrev ia (mf_ : Nat) (r : List (ByteArray × (List UInt8))) (U : List Rowb) (Γ : Gh) (v : Value) : Prop := ∃ (rowf_' : Rowb), v = .tuple #[] ∧ U = [rowf_'] ∧ MapO (strK Tryz.underlying9) (slT ar).v Γ rowf_' mf_ r ∧ True
theorem lQ {mf_ : Nat} {rowf_ : Rowb} {f_ : List (ByteArray × (List UInt8))} (hf_ : MapO (strK underlying9) (slT ar).v Γ rowf_ mf_ f_) {gb0 : Nat} (b0 : ByteArray) (hb0_0 : Γ gb0 = some (.cells #[.string b0] 9 (0, 0))) (hb0_1 : b0.size ≤ lim) {gb1 : Nat} (b1 : Int) (hb1_0 : Γ gb1 = some (.cells #[ii b1] 3 (0, 0))) (hb1_1 : I64 b1) (hp : Pre [rowf_] Γ w0) {r : List (ByteArray × (List UInt8))} (h : ic f_ b0 b1 = some r) : Calls Tryz.prog 310 #[.map (some mf_), (pq gb0), (pq gb1)] w0 (Outc Γ [rowf_] w0 (ia mf_ r)) := by
 refine goV [] func310 ntmps310 results310 hp fun F hF => ?_
 refine leV fun h01 => ?_
 refine dM (CC F Γ []) (bo_ [] gR h01) fun k => ?_
 change WH _ _ _ _ (CC F Γ [_]) _ 8 _ _
 refine hV 0 k (q:=cI (v := .map (some mf_)) rfl (by kernel_rfl)) (k:=hV 1 k (q:=lC (v := .string b0) hb0_0 rfl isAgg9 rfl rfl) (k:=hV 2 k (q:=cI (v := .map (some mf_)) rfl (by kernel_rfl)) (k:=hV 3 k (q:=lC (v := .string b0) hb0_0 rfl isAgg9 rfl rfl) (k:=hV 5 k (q:=lC (v := ii b1) hb1_0 rfl isAgg3 rfl rfl) (k:=wl_ 4 rfl ?_)))))
 obtain ⟨v2, ⟨A5, c6, hv3, hc7, hs8⟩, hat4⟩ := MapO.look hf_ b0 (z := .slice none 0 0) (zx := []) ⟨none, 0, rfl, Nat.zero_le _, Sl.nil _ _ _⟩
 obtain rfl : v2 = _ := List.cons.inj hv3 |>.1
 refine sV (mD (v := .slice A5 ((mget b0 f_).getD []).length c6) hat4 rfl underlying102 zeroValue61 rfl rfl (i := 0) rfl) (k:=?_)
 refine WR.nil (nxV (bo_ [] gR h01) fun k => ?_)
 obtain ⟨hk9, h⟩ := ah h
 refine hV 6 k (q:=iA (c := c6) (hi := b1.toNat) (xs := ((mget b0 f_).getD [])) underlying61 sizeOf5 rfl rfl (dp rfl hk9) (aY hk9) hc7) (k:=wl_ 7 rfl ?_)
 refine nm (i := 0) (x := b0) (v := .slice A5 (List.take b1.toNat ((mget b0 f_).getD [])).length c6) (a := (List.take b1.toNat ((mget b0 f_).getD []))) rfl rfl rfl underlying102 rfl rfl (by kernel_rfl) rfl hf_ (by exact ⟨A5, c6, rfl, (eY hc7 b1.toNat), (hs8.cut_to (hi := b1.toNat) (aY hk9))⟩) hb0_1 ?_
 intro row10 hm11
 refine WR.nil (nxV (bo_ [] gR h01) fun k => ?_)
 refine WH.done (by kernel_rfl) ?_
 intro w hw
 obtain rfl := Option.some.inj h
 subst hF
 exact bO (is := [0]) (by kernel_rfl) hw rfl ⟨row10, rfl, rfl, hm11, trivial⟩
abbrev k7 (mf_ : Nat) (r : List (ByteArray × (List UInt8))) (U : List Rowb) (Γ : Gh) (v : Value) : Prop := ∃ (rowf_' : Rowb), v = .tuple #[] ∧ U = [rowf_'] ∧ MapO (strK Tryz.underlying9) (slT ar).v Γ rowf_' mf_ r ∧ True
theorem jD {mf_ : Nat} {rowf_ : Rowb} {f_ : List (ByteArray × (List UInt8))} (hf_ : MapO (strK underlying9) (slT ar).v Γ rowf_ mf_ f_) {gb0 : Nat} (b0 : ByteArray) (hb0_0 : Γ gb0 = some (.cells #[.string b0] 9 (0, 0))) (hb0_1 : b0.size ≤ lim) (hp : Pre [rowf_] Γ w0) {r : List (ByteArray × (List UInt8))} (h : fQ f_ b0 = some r) : Calls Tryz.prog 316 #[.map (some mf_), (pq gb0)] w0 (Outc Γ [rowf_] w0 (k7 mf_ r)) := by
 refine goV [] func316 ntmps316 results316 hp fun F hF => ?_
 refine WC.region ?_
 refine mU (v := .map (some mf_)) (k:=sV (lC (v := .string b0) hb0_0 rfl isAgg9 rfl rfl) (k:=?_))
 refine xi (i := 0) (x := b0) rfl hf_ rfl rfl rfl underlying102 rfl rfl ?_
 intro row1 hm2
 refine WR.nil ?_
 intro w hw
 obtain rfl := Option.some.inj h
 subst hF
 exact bO (is := [0]) (by kernel_rfl) hw rfl ⟨row1, rfl, rfl, hm2, trivial⟩
theorem iK {As_ : Option Addr} {cs_ : Nat} {s_ : List UInt8} (hs_ : Sl ar Γ As_ s_) (hs_c : s_.length ≤ cs_) (hs : Sat Γ w0) {r : List UInt8} (h : eJ s_ = some r) : CQ Tryz.prog 401 #[.slice As_ s_.length cs_] w0 (.slice As_ s_.length s_.length) := by
 refine goQ [2] func401 ntmps401 results401 hs fun F hF => ?_
 refine WC.rs (aV (k:=WR.done (WC.rs (mV (k:=mV (k:=sV (ai rfl underlying61) (k:=mV (k:=?_))))))))
 refine sV (ai rfl underlying61) (k:=sV (za (T := ar) (xs := s_) underlying61 sizeOf5 rfl rfl rfl rfl hs_c) (k:=aV (k:=WR.done ?_)))
 exact WC.ret fun w hw => by obtain rfl := Option.some.inj h; exact ⟨by kernel_rfl, fr_ hF hw⟩
abbrev qU (mf_ : Nat) (r : List (ByteArray × (List UInt8))) (U : List Rowb) (Γ : Gh) (v : Value) : Prop := ∃ (rowf_' : Rowb), v = .tuple #[] ∧ U = [rowf_'] ∧ MapO (strK Tryz.underlying9) (slT ar).v Γ rowf_' mf_ r ∧ True
theorem qN {mf_ : Nat} {rowf_ : Rowb} {f_ : List (ByteArray × (List UInt8))} (hf_ : MapO (strK underlying9) (slT ar).v Γ rowf_ mf_ f_) {gb0 : Nat} (b0 : ByteArray) (hb0_0 : Γ gb0 = some (.cells #[.string b0] 9 (0, 0))) (hb0_1 : b0.size ≤ lim) {gb1 : Nat} {Ab1_0 : Option Addr} {cb1_0 : Nat} (b1 : (List UInt8)) (hb1_0 : Γ gb1 = some (.cells #[.slice Ab1_0 b1.length cb1_0] 61 (0, 0))) (hb1_1 : b1.length ≤ cb1_0) (hb1_2 : Sl ar Γ Ab1_0 b1) (hp : Pre [rowf_] Γ w0) {r : List (ByteArray × (List UInt8))} (h : lM f_ b0 b1 = some r) : Calls Tryz.prog 400 #[.map (some mf_), (pq gb0), (pq gb1)] w0 (Outc Γ [rowf_] w0 (qU mf_ r)) := by
 refine goV [] func400 ntmps400 results400 hp fun F hF => ?_
 refine leV fun h01 => ?_
 refine dM (CC F Γ []) (bo_ [] gR h01) fun k => ?_
 change WH _ _ _ _ (CC F Γ [_]) _ 9 _ _
 refine hV 0 k (q:=cI (v := .map (some mf_)) rfl (by kernel_rfl)) (k:=hV 1 k (q:=lC (v := .string b0) hb0_0 rfl isAgg9 rfl rfl) (k:=hV 2 k (q:=cI (v := .map (some mf_)) rfl (by kernel_rfl)) (k:=hV 3 k (q:=lC (v := .string b0) hb0_0 rfl isAgg9 rfl rfl) (k:=hV 6 k (q:=lC (v := .slice Ab1_0 b1.length cb1_0) hb1_0 rfl isAgg61 rfl rfl) (k:=wl_ 4 rfl ?_)))))
 obtain ⟨v2, ⟨A5, c6, hv3, hc7, hs8⟩, hat4⟩ := MapO.look hf_ b0 (z := .slice none 0 0) (zx := []) ⟨none, 0, rfl, Nat.zero_le _, Sl.nil _ _ _⟩
 obtain rfl : v2 = _ := List.cons.inj hv3 |>.1
 refine sV (mD (v := .slice A5 ((mget b0 f_).getD []).length c6) hat4 rfl underlying102 zeroValue61 rfl rfl (i := 0) rfl) (k:=?_)
 refine WR.nil (nxV (bo_ [] gR h01) fun k => ?_)
 refine wl_ 5 rfl ?_
 obtain ⟨z9, hz10, h⟩ := bnd h
 refine vqV (caV call401) (fun w hw => iK (Γ := Gh.all w) (hs8.mono hw.sat.le_all) hc7 (Sat.all w) hz10) (k:=?_)
 refine WR.nil (nxV (bo_ [] gR h01) fun k => ?_)
 refine wl_ 7 rfl ?_
 obtain ⟨hk11, h⟩ := ah h
 refine pH (T := ar) (xs := ((mget b0 f_).getD [])) (ys := b1) bq rfl rfl rfl rfl rfl rfl hs8 (of_decide_eq_true hk11) (fun w hw => jo hb1_2 hw) ?_
 intro Γ12 A13 c14 hl15 hs16 hc17
 refine WR.nil (nxV (bo_ [] hl15 h01) fun k => ?_)
 refine wl_ 8 rfl ?_
 refine nm (i := 1) (x := b0) (v := .slice A13 (((mget b0 f_).getD []) ++ b1).length c14) (a := (((mget b0 f_).getD []) ++ b1)) rfl rfl rfl underlying102 rfl rfl (by kernel_rfl) rfl (hf_.mono hl15) (by exact ⟨A13, c14, rfl, hc17, hs16⟩) hb0_1 ?_
 intro row18 hm19
 refine WR.nil (nxV (bo_ [] hl15 h01) fun k => ?_)
 refine WH.done (by kernel_rfl) ?_
 intro w hw
 obtain rfl := Option.some.inj h
 subst hF
 exact bO (is := [1]) (by kernel_rfl) hw rfl ⟨row18, rfl, rfl, hm19, trivial⟩
theorem jf {Γ : Gh} {x : aj} {A : Option Addr} {c : Nat} (hx : aj.ok Γ A c x) {mf_ : Nat} {rowf_ : Rowb} {f_ : List (ByteArray × (List UInt8))} (hf_ : MapO (strK Tryz.underlying9) (slT ar).v Γ rowf_ mf_ f_) {r : List (ByteArray × (List UInt8))} (h : f0 x f_ = some r) : ∃ fd caps, aj.val x A c = .func (.func fd) #[] caps ∧ (∀ (args : Array Value) (w : World), (callFunc fd args).run Tryz.prog w = .ok (.enter fd args) w) ∧ ∀ w0, Pre [rowf_] Γ w0 → Calls Tryz.prog fd (#[.map (some mf_)] ++ caps) w0 (Outc Γ [rowf_] w0 (ia mf_ r)) := by
  cases x with
  | disk_Disk_Cut_1 a0 a1 =>
    obtain ⟨⟨h0_0, h0_1⟩, ⟨g1, rfl, h1_0, h1_1⟩, -⟩ := hx
    exact ⟨_, _, rfl, Tryz.call310, fun w0 hp => lQ hf_ a0 h0_0 h0_1 a1 h1_0 h1_1 hp h⟩
  | disk_Disk_Remove_1 a0 =>
    obtain ⟨⟨h0_0, h0_1⟩, -⟩ := hx
    exact ⟨_, _, rfl, Tryz.call316, fun w0 hp => jD hf_ a0 h0_0 h0_1 hp h⟩
  | disk_add_1 a0 a1 =>
    obtain ⟨⟨h0_0, h0_1⟩, ⟨g1, A1_0, c1_0, rfl, h1_0, h1_1, h1_2⟩, -⟩ := hx
    exact ⟨_, _, rfl, Tryz.call400, fun w0 hp => qN hf_ a0 h0_0 h0_1 a1 h1_0 h1_1 h1_2 hp h⟩
abbrev mI (gd : Nat) (ed : Nat) (r : aa × Int) (U : List Rowb) (Γ : Gh) (v : Value) : Prop := ∃ (rowd' : Rowb), v = .int .i64 r.2 ∧ U = [rowd'] ∧ aa.ob ed Γ gd rowd' r.1 ∧ I64 r.2 ∧ True
theorem iH {gd ed : Nat} {rowd : Rowb} {d : aa} (hd : aa.ob ed Γ gd rowd d) {Ac_0 : Option Addr} {cc_0 : Nat} {Ac_2 : Option Addr} {cc_2 : Nat} (c_ : aE) (hc_ : aE.fits Γ Ac_0 cc_0 Ac_2 cc_2 c_) (hp : Pre [rowd] Γ w0) {r : aa × Int} (h : fB d c_ = some r) : Calls Tryz.prog 309 #[(pq gd), .agg #[(aj.val c_.do_ Ac_0 cc_0), .string c_.name, .slice Ac_2 c_.tail.length cc_2]] w0 (Outc Γ [rowd] w0 (mI gd ed r)) := by
 refine goV [4] func309 ntmps309 results309 hp fun F hF => ?_
 refine WC.rs ?_
 refine bxV (v := .agg #[(aj.val c_.do_ Ac_0 cc_0), .string c_.name, .slice Ac_2 c_.tail.length cc_2]) fun g1 => ?_
 refine aV (k:=WR.done (WC.seq ?_))
 refine leV fun h02 => ?_
 refine dM (CC F Γ [[(g1, .cells #[(aj.val c_.do_ Ac_0 cc_0), .string c_.name, .slice Ac_2 c_.tail.length cc_2] 461 (0, 0))]]) (bo_ [0] gR h02) fun k => ?_
 change WH _ _ _ _ (CC F Γ [_, _]) _ 7 _ _
 refine hV 0 k (q:=q_fl 0 vA) (k:=hV 1 k (q:=ldV 0 isAgg459) (k:=hV 2 k (q:=moV) (k:=hV 3 k (q:=nlV) (k:=hV 4 k (q:=q_fl 2 gD) (k:=wl_ 5 rfl ?_)))))
 obtain ⟨m1_3, r1_3, m2_3, r2_3, A3_3, c3_3, r3_3, hrow_3, ho0_3, ho1_3, ho2_3, ho3_3, -⟩ := id hd
 refine ufR 1 hrow_3 [_, _, _, _, _] ?_
 refine sV (ldV 0 isAgg102) (k:=?_)
 refine WR.nil (nxV (bo_ [4] gR h02) fun k => ?_)
 refine wl_ 6 rfl ?_
 obtain ⟨z4, hz5, h⟩ := bnd h
 obtain ⟨fd6, cp7, hv8, he9, hcl10⟩ := jf (x := c_.do_) hc_.1 ho2_3 hz5
 refine ecV [2] (fO (caps := cp7) (args := #[.map (some m2_3)] ++ cp7) he9 rfl (Eq.trans (b := (aj.val c_.do_ Ac_0 cc_0)) (by kernel_rfl) hv8) (by kernel_rfl)) (fun w hp => (by exact hcl10 w hp)) ?_
 rintro Γ11 _ _ hl12 ⟨row15, rfl, rfl, hr16, _⟩
 refine cwV 11 [_, _, _, _, _] ?_
 refine WR.nil (nxV (bo_ [4] hl12 h02) fun k => ?_)
 refine WH.done (by kernel_rfl) ?_
 change WC _ _ _ _ _ _
 refine WC.seq ?_
 refine leV fun h017 => ?_
 refine dM (CC F Γ11 [[(g1, .cells #[(aj.val c_.do_ Ac_0 cc_0), .string c_.name, .slice Ac_2 c_.tail.length cc_2] 461 (0, 0))]]) (bo_ [4] gR h017) fun k => ?_
 change WH _ _ _ _ (CC F Γ11 [_, _, _, _, _]) _ 11 _ _
 refine hV 0 k (q:=moV) (k:=hV 1 k (q:=moV) (k:=hV 2 k (q:=nlV) (k:=hV 3 k (q:=q_fl 3 j0) (k:=hV 5 k (q:=ldaV 0 [(aj.val c_.do_ Ac_0 cc_0), .string c_.name, .slice Ac_2 c_.tail.length cc_2] isAgg461 sizeOf461) (k:=?_)))))
 refine WH.each (l := [4, 6]) (by kernel_rfl) (by simp) ?_
 intro i hi; simp only [List.mem_cons, List.not_mem_nil, or_false] at hi
 rcases hi with rfl | rfl
 ·
  refine ⟨_, rfl, ?_⟩
  refine sV (ldV 1 isAgg103) (k:=?_)
  refine WR.nil (nxV (bo_ [4] gR h017) fun k => ?_)
  refine wl_ 6 rfl ?_
  refine bsV #[(aj.val c_.do_ Ac_0 cc_0), .string c_.name, .slice Ac_2 c_.tail.length cc_2] 461 fun g18 => ?_
  refine WR.nil (nxV (bo_ [5] gR h017) fun k => ?_)
  refine wl_ 7 rfl ?_
  obtain ⟨hk19, h⟩ := ah h
  refine apV 4 [c_] rr (ho3_3.mono hl12) (of_decide_eq_true hk19) (fun w hw => bw (i := 0) rfl (by exact ⟨Ac_0, cc_0, Ac_2, cc_2, rfl, (aE.fits_mono hc_ hl12)⟩) hw) ?_
  intro row20 A21 c22 ho23
  refine WR.nil (nxV (bo_ [5] gR h017) fun k => ?_)
  refine hV 8 k (q:=nlV) (k:=hV 9 k (q:=q_fl 3 j0) (k:=wl_ 10 rfl (stV 2 (.slice A21 (d.loose ++ [c_]).length c22) #[ii d.room, .map (some m1_3), .map (some m2_3), .slice A21 (d.loose ++ [c_]).length c22] sizeOf103 (k:=?_))))
  refine WR.nil (nxV (bo_ [5] gR h017) fun k => ?_)
  refine WH.done (by kernel_rfl) ?_
  change WC _ _ _ _ _ _
  refine WC.rs (aV (k:=WR.done ?_))
  refine WC.ret ?_
  intro w hw
  obtain ⟨row_24, hrow_24, hob_24⟩ : ∃ rw : Rowb, rw = ([[(gd, .cells #[ii d.room, .map (some m1_3), .map (some m2_3), .slice A21 (d.loose ++ [c_]).length c22] ed (0, 0))], r1_3, row15, row20] : List Rowb).flatten ∧ aa.ob ed Γ11 gd rw (⟨d.room, d.safe_, z4, (d.loose ++ [c_])⟩ : aa) := ⟨_, rfl, m1_3, r1_3, m2_3, row15, A21, c22, row20, rfl, ho0_3, (ho1_3.mono hl12), hr16, ho23, trivial⟩
  have hw := hw.fold (is := [2, 2, 1, 1]) rfl hrow_24
  obtain rfl := Option.some.inj h
  subst hF
  exact bO (is := [0]) (by kernel_rfl) hw rfl ⟨row_24, rfl, rfl, hob_24, iV, trivial⟩
 refine ⟨_, rfl, ?_⟩
 refine bsV #[(aj.val c_.do_ Ac_0 cc_0), .string c_.name, .slice Ac_2 c_.tail.length cc_2] 461 fun g18 => ?_
 refine WR.nil (nxV (bo_ [5] gR h017) fun k => ?_)
 refine wl_ 4 rfl (sV (ldV 2 isAgg103) (k:=?_))
 refine WR.nil (nxV (bo_ [5] gR h017) fun k => ?_)
 refine wl_ 7 rfl ?_
 obtain ⟨hk19, h⟩ := ah h
 refine apV 4 [c_] rr (ho3_3.mono hl12) (of_decide_eq_true hk19) (fun w hw => bw (i := 0) rfl (by exact ⟨Ac_0, cc_0, Ac_2, cc_2, rfl, (aE.fits_mono hc_ hl12)⟩) hw) ?_
 intro row20 A21 c22 ho23
 refine WR.nil (nxV (bo_ [5] gR h017) fun k => ?_)
 refine hV 8 k (q:=nlV) (k:=hV 9 k (q:=q_fl 3 j0) (k:=wl_ 10 rfl (stV 2 (.slice A21 (d.loose ++ [c_]).length c22) #[ii d.room, .map (some m1_3), .map (some m2_3), .slice A21 (d.loose ++ [c_]).length c22] sizeOf103 (k:=?_))))
 refine WR.nil (nxV (bo_ [5] gR h017) fun k => ?_)
 refine WH.done (by kernel_rfl) ?_
 change WC _ _ _ _ _ _
 refine WC.rs (aV (k:=WR.done ?_))
 refine WC.ret ?_
 intro w hw
 obtain ⟨row_24, hrow_24, hob_24⟩ : ∃ rw : Rowb, rw = ([[(gd, .cells #[ii d.room, .map (some m1_3), .map (some m2_3), .slice A21 (d.loose ++ [c_]).length c22] ed (0, 0))], r1_3, row15, row20] : List Rowb).flatten ∧ aa.ob ed Γ11 gd rw (⟨d.room, d.safe_, z4, (d.loose ++ [c_])⟩ : aa) := ⟨_, rfl, m1_3, r1_3, m2_3, row15, A21, c22, row20, rfl, ho0_3, (ho1_3.mono hl12), hr16, ho23, trivial⟩
 have hw := hw.fold (is := [2, 2, 1, 1]) rfl hrow_24
 obtain rfl := Option.some.inj h
 subst hF
 exact bO (is := [0]) (by kernel_rfl) hw rfl ⟨row_24, rfl, rfl, hob_24, iV, trivial⟩
abbrev nN (gd : Nat) (ed : Nat) (r : aa × Int) (U : List Rowb) (Γ : Gh) (v : Value) : Prop := ∃ (rowd' : Rowb), v = .int .i64 r.2 ∧ U = [rowd'] ∧ aa.ob ed Γ gd rowd' r.1 ∧ I64 r.2 ∧ True
theorem nO {gd ed : Nat} {rowd : Rowb} {d : aa} (hd : aa.ob ed Γ gd rowd d) (name : ByteArray) (hname : name.size ≤ lim) (n : Int) (hn : I64 n) (hp : Pre [rowd] Γ w0) {r : aa × Int} (h : jp d name n = some r) : Calls Tryz.prog 232 #[(pq gd), .string name, ii n] w0 (Outc Γ [rowd] w0 (nN gd ed r)) := by
 refine goV [6] func232 ntmps232 results232 hp fun F hF => ?_
 refine WC.rs ?_
 refine bxV (v := .string name) fun g1 => ?_
 refine bxV (v := ii n) fun g2 => ?_
 refine aV (k:=WR.done (WC.seq (WC.rs (mV (k:=sV (ldV 1 isAgg9) (k:=?_))))))
 obtain ⟨z3, hz4, h⟩ := bnd h
 refine vqV (caV call308) (fun w hw => hZ (Γ := Gh.all w) (hd.mono hw.sat.le_all) (hw.ra 2 rfl) name hname (Sat.all w) hz4) (k:=aV (k:=WR.done (WC.rs (mV (k:=sV ci (k:=WR.done ?_))))))
 refine ciV h (fun hb5 h => ?_) (fun hb5 h => ?_)
 ·
  refine WC.rs (mV (k:=aV (k:=WR.done ?_)))
  refine WC.ret ?_
  intro w hw
  obtain ⟨hk6, h⟩ := ah h
  obtain rfl := Option.some.inj h
  subst hF
  exact bO (is := [2]) (by kernel_rfl) hw rfl ⟨rowd, rfl, rfl, hd, (dP hk6), trivial⟩
 refine WC.skip (wc_ (WC.seq (WC.seq ?_)))
 obtain ⟨m1_7, r1_7, m2_7, r2_7, A3_7, c3_7, r3_7, hrow_7, ho0_7, ho1_7, ho2_7, ho3_7, -⟩ := id hd
 refine ufC 2 hrow_7 [_, _, _, _, _, _] ?_
 refine drV ?_
 refine zV (ldV 4 isAgg3) (k:=zV aI (k:=zV moV (k:=wG0 (h:=fun hg8 => ldV 4 isAgg3) (k:=wG0 (h:=fun hg9 => moV) (k:=wG0 (h:=fun hg10 => nlV (hv:=grV hg10)) (k:=wG0 (h:=fun hg11 => q_fl 2 gD rfl (grV hg11)) (k:=wG0 (h:=fun hg12 => ldV 0 isAgg102 (hx:=grV hg12)) (k:=?_))))))))
 refine wG0 (h:=fun hg13 => ldV 5 isAgg9) (k:=?_)
 obtain ⟨v15, ⟨A18, c19, hv16, hc20, hs21⟩, hat17⟩ := MapO.look ho2_7 name (z := .slice none 0 0) (zx := []) ⟨none, 0, rfl, Nat.zero_le _, Sl.nil _ _ _⟩
 obtain rfl : v15 = _ := List.cons.inj hv16 |>.1
 refine wG0 (h:=fun hg14 => mD (v := .slice A18 ((mget name d.seen).getD []).length c19) hat17 rfl underlying102 zeroValue61 (grV hg14) (grV hg14) (i := 2) rfl) (k:=wG0 (h:=fun hg22 => ai rfl underlying61 (grV hg22)) (k:=wG0 (h:=fun hg23 => bJ rfl (grV hg23) (grV hg23)) (k:=zV pkO (k:=?_))))
 refine WQ.nil ?_
 change WC _ _ _ _ _ _
 refine ciV h (fun hb24 h => ?_) (fun hb24 h => ?_)
 ·
  refine WC.rs (aV (k:=WR.done ?_))
  refine WC.ret ?_
  intro w hw
  have hw := hw.fold (is := [0, 0, 0, 0]) rfl hrow_7
  exact re_ r [0] h hF hw ⟨rowd, rfl, rfl, hd, iV, trivial⟩
 refine WC.skip (wc_ (WC.rs (mV (k:=sV (jG (v := .func (.func 310) #[] #[(pq g1), (pq g2)]) rfl (by kernel_rfl)) (k:=sV (bh (v := .agg #[.func (.func 310) #[] #[(pq g1), (pq g2)], .string ByteArray.empty, .slice none 0 0]) rfl (mR rfl) (fun w => by kernel_rfl)) (k:=?_))))))
 refine foR [0, 0, 0, 0] hrow_7 [_, _, _] ?_
 intro w hw; obtain ⟨Γ27, hw, hl28, hr29⟩ := hw.seal (i := 2) rfl
 have hg30 := hr29 _ (List.mem_singleton.2 rfl)
 refine WR.here (C := CC F Γ27 [_, _, _]) ?_ hw
 clear hw
 intro w hw; obtain ⟨Γ31, hw, hl32, hr33⟩ := hw.seal (i := 1) rfl
 have hg34 := hr33 _ (List.mem_singleton.2 rfl)
 refine WR.here (C := CC F Γ31 [_, _, _]) ?_ hw
 clear hw
 have hf35 : aj.ok Γ31 (some ⟨g2, 0, none⟩) g1 (aj.disk_Disk_Cut_1 name n) := ⟨⟨(hl32 _ _ hg30), hname⟩, ⟨g2, rfl, hg34, hn⟩, trivial⟩
 obtain ⟨z36, hz37, h⟩ := bnd h
 refine ecV [0] (caV call309) (fun w hp => iH (hd.mono (hl28.trans hl32)) (Ac_2 := none) (cc_2 := 0) (⟨(aj.disk_Disk_Cut_1 name n), ByteArray.empty, []⟩ : aE) ⟨hf35, (show (ByteArray.empty : ByteArray).size ≤ lim by decide), nilV⟩ hp hz37) ?_
 rintro Γ38 _ _ hl39 ⟨row42, rfl, rfl, hr43, hr44, _⟩
 refine cwV 30 [_, _, _] (aV (k:=WR.done ?_))
 exact WC.ret fun w hw => re_ r [0] h hF hw ⟨row42, rfl, rfl, hr43, hr44, trivial⟩
abbrev j3 (edk0 : Nat) (gp__0 : Nat) (r : aa) (U : List Rowb) (Γ : Gh) (v : Value) : Prop := ∃ (rowdk0' : Rowb), v = .tuple #[] ∧ U = [rowdk0'] ∧ aa.ob edk0 Γ gp__0 rowdk0' r ∧ True
theorem eX {gp__0 : Nat} (p__1 : ByteArray) (hp__1 : p__1.size ≤ lim) (p__2 : Int) (hp__2 : I64 p__2) (f_ : ByteArray) (hf_ : f_.size ≤ lim) (n : Int) (hn : I64 n) {edk0 : Nat} {rowdk0 : Rowb} {dk0 : aa} (hdk0 : aa.ob edk0 Γ gp__0 rowdk0 dk0) (hp : Pre [rowdk0] Γ w0) {r : aa} (h : dt p__1 p__2 f_ n dk0 = some r) : Calls Tryz.prog 133 #[.agg #[(pq gp__0), .string p__1, ii p__2], .string f_, ii n] w0 (Outc Γ [rowdk0] w0 (j3 edk0 gp__0 r)) := by
 refine goV [] func133 ntmps133 results133 hp fun F hF => ?_
 refine WC.rs ?_
 refine bxV (v := .agg #[(pq gp__0), .string p__1, ii p__2]) fun g1 => ?_
 refine WR.done (WC.rs (sV (q_fl 0 gx) (k:=sV (ldV 0 isAgg30) (k:=mV (k:=?_)))))
 obtain ⟨z2, hz3, h⟩ := bnd h
 refine ecV [1] (caV call230) (fun w hp => fw hdk0 f_ hf_ hp hz3) ?_
 rintro Γ4 _ _ hl5 ⟨A8, c9, row10, rfl, rfl, hr11, _⟩
 refine cwV 12 [_, _, _] (mV (k:=sV exV (k:=sV exV (k:=aV (k:=aV (k:=WR.done (WC.rs ?_)))))))
 refine mV (k:=sV (ai rfl underlying61) (k:=mV (k:=sV bJ (k:=WR.done ?_))))
 refine ciV h (fun hb12 h => ?_) (fun hb12 h => ?_)
 ·
  refine WC.region ?_
  refine sV (q_fl 0 gx) (k:=sV (ldV 2 isAgg30) (k:=mV (k:=mV (k:=?_))))
  obtain ⟨z13, hz14, h⟩ := bnd h
  refine ecV [0] (caV call232) (fun w hp => nO (hdk0.mono hl5) f_ hf_ n hn hp hz14) ?_
  rintro Γ15 _ _ hl16 ⟨row19, rfl, rfl, hr20, hr21, _⟩
  refine cwV 23 [_, _, _] ?_
  refine WR.nil ?_
  intro w hw
  obtain rfl := Option.some.inj h
  subst hF
  exact bO (is := [0]) (by kernel_rfl) hw rfl ⟨row19, rfl, rfl, hr20, trivial⟩
 refine WC.skip ?_
 intro w hw
 obtain rfl := Option.some.inj h
 subst hF
 exact bO (is := [0]) (by kernel_rfl) hw rfl ⟨rowdk0, rfl, rfl, (hdk0.mono hl5), trivial⟩
abbrev mf (gd : Nat) (ed : Nat) (rowd : Rowb) (r : List ByteArray) (U : List Rowb) (Γ : Gh) (v : Value) : Prop := ∃ (A0 : Option Addr), ∃ (c0 : Nat), ∃ (row0 : Rowb), v = .slice A0 r.length c0 ∧ U = [rowd, row0] ∧ Own strT Γ 9 row0 A0 c0 r ∧ True
theorem m7 {gd ed : Nat} {rowd : Rowb} {d : aa} (hd : aa.ob ed Γ gd rowd d) (hp : Pre [rowd] Γ w0) {r : List ByteArray} (h : hO d = some r) : Calls Tryz.prog 312 #[(pq gd)] w0 (Outc Γ [rowd] w0 (mf gd ed rowd r)) := by
 refine goV [2] func312 ntmps312 results312 hp fun F hF => ?_
 refine WC.rs (aV (k:=WR.done (WC.rs (mV (k:=sV nlV (k:=sV (q_fl 2 gD) (k:=?_)))))))
 obtain ⟨m1_1, r1_1, m2_1, r2_1, A3_1, c3_1, r3_1, hrow_1, ho0_1, ho1_1, ho2_1, ho3_1, -⟩ := id hd
 refine ufR 0 hrow_1 [_, _, _, _] ?_
 refine sV (ldV 0 isAgg102) (k:=?_)
 refine zd (ρ := jY) uv (mb := some m2_1) rfl rfl (caV call368) ?_
 intro g2
 refine cwV 7 [_, _, _, _, _] ?_
 obtain ⟨hk3, h⟩ := ah h
 refine ecV [0, 2] (caV call292) (fun w hp => vq ho2_1 (of_decide_eq_true hk3) hp) ?_
 rintro Γ4 _ _ hl5 ⟨A8, c9, row10, rfl, rfl, ho11⟩
 refine cwV 8 [_, _, _, _, _, _] (aV (k:=WR.done ?_))
 refine WC.ret ?_
 intro w hw
 have hw := hw.fold (is := [3, 3, 1, 2]) rfl hrow_1
 exact re_ r [0, 1] h hF hw ⟨A8, c9, row10, rfl, rfl, ho11, trivial⟩
theorem eR (s_ : ByteArray) (hs_ : s_.size ≤ lim) (prefix_ : ByteArray) (hprefix_ : prefix_.size ≤ lim) (hs : Sat Γ w0) {r : Bool} (h : cV s_ prefix_ = some r) : CQ Tryz.prog 395 #[.string s_, .string prefix_] w0 (.bool r) := by
 refine goQ [4] func395 ntmps395 results395 hs fun F hF => ?_
 refine WC.rs (aV (k:=WR.done (WC.rs (mV (k:=sV (aQ rfl underlying9) (k:=mV (k:=sV (aQ rfl underlying9) (k:=?_))))))))
 refine sV bX (k:=mV (k:=vG1 (h:=fun hg1 => moV) (k:=vG1 (h:=fun hg2 => moV) (k:=vG1 (h:=fun hg3 => aQ rfl underlying9 (grV hg3)) (k:=?_)))))
 obtain ⟨hk5, h⟩ := ah h
 refine vG1 (h:=fun hg4 => pM underlying9 rfl (grV hg4) (grV hg4) (of_decide_eq_true (bK hk5 hg4))) (k:=vG1 (h:=fun hg6 => moV) (k:=vG1 (h:=fun hg7 => qD rfl (grV hg7) (grV hg7)) (k:=sV pkA (k:=aV (k:=WR.done ?_)))))
 exact WC.ret fun w hw => rq_ r h hF hw
theorem fb (s_ : ByteArray) (hs_ : s_.size ≤ lim) (prefix_ : ByteArray) (hprefix_ : prefix_.size ≤ lim) (hs : Sat Γ w0) {r : ByteArray × Bool} (h : cX s_ prefix_ = some r) : CQ Tryz.prog 369 #[.string s_, .string prefix_] w0 (.tuple #[.string r.1, .bool r.2]) := by
 refine goQ [4, 5] func369 ntmps369 results369 hs fun F hF => ?_
 refine WC.rs (aV (k:=aV (k:=WR.done (WC.seq (WC.rs (mV (k:=mV (k:=?_))))))))
 obtain ⟨z1, hz2, h⟩ := bnd h
 refine vqV (caV call395) (fun w hw => eR (Γ := Gh.all w) s_ hs_ prefix_ hprefix_ (Sat.all w) hz2) (k:=sV dJ (k:=WR.done ?_))
 refine ciV h (fun hb3 h => ?_) (fun hb3 h => ?_)
 ·
  refine WC.rs (mV (k:=aV (k:=aV (k:=WR.done ?_))))
  exact WC.ret fun w hw => by obtain rfl := Option.some.inj h; exact ⟨by kernel_rfl, fr_ hF hw⟩
 refine WC.skip (wc_ (WC.rs (mV (k:=mV (k:=sV (aQ rfl underlying9) (k:=?_))))))
 obtain ⟨hk4, h⟩ := ah h
 refine sV (pR underlying9 rfl rfl rfl (of_decide_eq_true hk4)) (k:=aV (k:=aV (k:=WR.done ?_)))
 exact WC.ret fun w hw => by obtain rfl := Option.some.inj h; exact ⟨by kernel_rfl, fr_ hF hw⟩
theorem kL (s_ : ByteArray) (hs_ : s_.size ≤ lim) (prefix_ : ByteArray) (hprefix_ : prefix_.size ≤ lim) (hs : Sat Γ w0) {r : ByteArray × Bool} (h : ga s_ prefix_ = some r) : CQ Tryz.prog 313 #[.string s_, .string prefix_] w0 (.tuple #[.string r.1, .bool r.2]) := by
 refine goQ [4, 5] func313 ntmps313 results313 hs fun F hF => ?_
 refine WC.rs (aV (k:=aV (k:=WR.done (WC.rs (mV (k:=mV (k:=?_)))))))
 obtain ⟨z1, hz2, h⟩ := bnd h
 refine vqV (caV call369) (fun w hw => fb (Γ := Gh.all w) s_ hs_ prefix_ hprefix_ (Sat.all w) hz2) (k:=sV exV (k:=sV exV (k:=aV (k:=aV (k:=WR.done ?_)))))
 exact WC.ret fun w hw => by obtain rfl := Option.some.inj h; exact ⟨by kernel_rfl, fr_ hF hw⟩
theorem gV (s_ : ByteArray) (hs_ : s_.size ≤ lim) (hs : Sat Γ w0) {r : ByteArray × ByteArray × Bool} (h : dY s_ = some r) : CQ Tryz.prog 370 #[.string s_, .string (⟨#[46]⟩ : ByteArray)] w0 (.tuple #[.string r.1, .string r.2.1, .bool r.2.2]) := by
 refine goQ [4, 5, 6] func370 ntmps370 results370 hs fun F hF => ?_
 refine WC.rs (aV (k:=aV (k:=aV (k:=WR.done (WC.seq (WC.rs (mV (k:=?_))))))))
 refine mV (k:=?_)
 obtain ⟨z1, hz2, h⟩ := bnd h
 refine vqV (caV call305) (fun w hw => dA (Γ := Gh.all w) s_ hs_ (Sat.all w) hz2) (k:=aV (k:=WR.done (WC.rs (mV (k:=sV bX (k:=WR.done ?_))))))
 refine ciV h (fun hb3 h => ?_) (fun hb3 h => ?_)
 ·
  refine WC.seq ?_
  refine drV ?_
  refine zV moV (k:=zV moV (k:=?_))
  obtain ⟨hk4, h⟩ := ah h
  refine zV (pM underlying9 rfl rfl (dp rfl hk4) (aY hk4)) (k:=zV moV (k:=zV moV (k:=zV moV (k:=zV (show QV _ _ _ _ (ii 1) from (show QV _ _ _ _ (ii (((⟨#[46]⟩ : ByteArray).size : Nat) : Int)) from aQ rfl underlying9)) (k:=zV cK (k:=?_))))))
  obtain ⟨hk5, h⟩ := ah h
  refine zV (pR underlying9 rfl rfl (dp rfl hk5) (aY hk5)) (k:=zV aoV (k:=zV aoV (k:=zV aoV (k:=?_))))
  refine WQ.nil ?_
  change WC _ _ _ _ _ _
  exact WC.ret fun w hw => by obtain rfl := Option.some.inj h; exact ⟨by kernel_rfl, fr_ hF hw⟩
 refine WC.skip (wc_ (WC.rs (mV (k:=aV (k:=aV (k:=aV (k:=WR.done ?_)))))))
 exact WC.ret fun w hw => by obtain rfl := Option.some.inj h; exact ⟨by kernel_rfl, fr_ hF hw⟩
theorem pE (s_ : ByteArray) (hs_ : s_.size ≤ lim) (hs : Sat Γ w0) {r : ByteArray × ByteArray × Bool} (h : kR s_ = some r) : CQ Tryz.prog 314 #[.string s_, .string (⟨#[46]⟩ : ByteArray)] w0 (.tuple #[.string r.1, .string r.2.1, .bool r.2.2]) := by
 refine goQ [4, 5, 6] func314 ntmps314 results314 hs fun F hF => ?_
 refine WC.rs (aV (k:=aV (k:=aV (k:=WR.done (WC.rs (mV (k:=mV (k:=?_))))))))
 obtain ⟨z1, hz2, h⟩ := bnd h
 refine vqV (caV call370) (fun w hw => gV (Γ := Gh.all w) s_ hs_ (Sat.all w) hz2) (k:=sV exV (k:=sV exV (k:=sV exV (k:=aV (k:=aV (k:=aV (k:=WR.done ?_)))))))
 exact WC.ret fun w hw => by obtain rfl := Option.some.inj h; exact ⟨by kernel_rfl, fr_ hF hw⟩
theorem oN (s_ : ByteArray) (hs_ : s_.size ≤ lim) (hs : Sat Γ w0) {r : Int × Int} (h : la s_ = some r) : CQ Tryz.prog 315 #[.string s_] w0 (.tuple #[ii r.1, ii r.2]) := by
 refine goQ [2, 3] func315 ntmps315 results315 hs fun F hF => ?_
 refine WC.rs (aV (k:=aV (k:=WR.done (WC.seq (WC.rs (mV (k:=sV qD (k:=?_))))))))
 refine mV (k:=vG0 (h:=fun hg1 => moV) (k:=vG0 (h:=fun hg2 => aQ rfl underlying9 (grV hg2)) (k:=vG0 (h:=fun hg3 => bJ rfl (grV hg3)) (k:=vG0 (h:=fun hg4 => cI (v := .bool (decide (1 < (s_.size : Int)))) rfl (grV hg4)) (k:=vh1 (c0 := (!(s_ == ByteArray.empty))) (g := (decide (1 < (s_.size : Int)))) rfl rfl rfl rfl rfl (fun _ => QV.qo moV) ?_)))))
 obtain ⟨hk7, h⟩ := ah h
 refine vh1 (c0 := (!(s_ == ByteArray.empty))) (g := (decide (1 < (s_.size : Int)))) rfl rfl rfl rfl rfl (fun hg6 => QV.qo (ta (i := 0) underlying9 rfl (grV hg6) rfl (of_decide_eq_true (bK hk7 hg6)))) (vh1 (c0 := (!(s_ == ByteArray.empty))) (g := (decide (1 < (s_.size : Int)))) rfl rfl rfl rfl rfl (fun hg8 => QV.qo (dl rfl (grV hg8))) (vG0 (h:=fun hg9 => fU rfl (grV hg9) (mJ (c := (!(s_ == ByteArray.empty))) (g := (decide (1 < (s_.size : Int)))) (y := ((((gt s_.data.toList 0).toNat : Nat) : Int) == 48)) hg9)) (k:=sV pkO (k:=mV (k:=vG0 (h:=fun hg10 => moV) (k:=vG0 (h:=fun hg11 => aQ rfl underlying9 (grV hg11)) (k:=vG0 (h:=fun hg12 => bJ rfl (grV hg12)) (k:=?_))))))))
 refine sV pkO (k:=WR.done ?_)
 refine ciV h (fun hb13 h => ?_) (fun hb13 h => ?_)
 ·
  refine WC.rs (aV (k:=aV (k:=WR.done ?_)))
  exact WC.ret fun w hw => by obtain rfl := Option.some.inj h; exact ⟨by kernel_rfl, fr_ hF hw⟩
 refine WC.skip (wc_ (WC.rs (aV (k:=WR.done (WC.seq (WC.rs (mV (k:=?_))))))))
 refine ye (src := 9) (dst := 61) (s := s_) underlying9 underlying61 underlying5 hs_ rfl rfl rfl rfl rfl ?_
 intro Γ14 A15 c16 hl17 hs18 hc19
 refine sV (ai rfl underlying61) (k:=mV (k:=WR.done (WC.block ?_)))
 refine WC.forI h (fun (i23 : Nat) (n_20 : Int) σ w => slots σ [(4, .int .u64 n_20), (25, .slice A15 (s_.data.toList).length c16), (26, ii (((s_.data.toList).length : Nat) : Int)), (27, ii (i23 : Int))] ∧ CC F Γ14 [] w ∧ U64 n_20 ∧ True) ?_ ?_
 ·
  intro w hw
  exact ⟨slK, (hw.on []), (show U64 0 by decide), trivial⟩
 rintro f22 i23 n_20 σ w hi24 hlt25 hge26 ⟨hsl, hw, hr21, -⟩
 refine slV hsl hw [] ?_; clear hw hsl
 refine WC.rs (sV aI (k:=WR.done (WC.seq ?_)))
 refine coV (fun hb27 => ?_) (fun hb27 => ?_)
 ·
  have hl28 := ilt hb27
  have h := hlt25 hl28
  refine WC.skip (wc_ (WC.seq (WC.block (WC.rs (sV (bB (i := i23) underlying61 sizeOf5 rfl rfl rfl hl28 (hs18.some_ hl28)) (k:=sV (q_ld (c := 0) (v := .int .u8 (((gt (s_.data.toList) i23).toNat : Nat) : Int)) (hs18.byteT_at hl28).2 rfl isAgg5 rfl rfl) (k:=aV (k:=?_))))))))
  refine WR.done (WC.seq (WC.rs (mV (k:=sV aI (k:=mV (k:=vG0 (h:=fun hg29 => moV) (k:=vG0 (h:=fun hg30 => bJ rfl (grV hg30)) (k:=?_))))))))
  refine sV pkO (k:=WR.done ?_)
  refine ciV h (fun hb31 h => ?_) (fun hb31 h => ?_)
  ·
   refine WC.rs (aV (k:=aV (k:=WR.done ?_)))
   exact WC.ret fun w hw => by obtain rfl := Option.some.inj h; exact ⟨by kernel_rfl, fr_ hF hw⟩
  refine WC.skip (wc_ ?_)
  refine WC.region ?_
  refine mV (k:=sV iQ (k:=mV (k:=sV eI (k:=sV (cj underlying205 underlying5) (k:=sV cK (k:=aV (k:=?_)))))))
  refine WR.nil ?_
  change WC _ _ _ _ _ _
  refine WC.region ?_
  refine sV (aK rfl rfl rfl (bx hl28 hs18.le)) (k:=mV (k:=?_))
  refine WR.nil ?_
  intro w hw
  exact ⟨hl28, (wu64 ((wu64 (10 * n_20)) + (wu64 (wu8 ((((gt (s_.data.toList) i23).toNat : Nat) : Int) - 48))))), h, slK, hw, (mE _), trivial⟩
 have h := hge26 (ige hb27)
 refine WC.exit ?_
 change WC _ _ _ _ _ _
 refine WC.seq (WC.rs (mV (k:=sV bX (k:=WR.done ?_))))
 refine ciV h (fun hb32 h => ?_) (fun hb32 h => ?_)
 ·
  refine WC.rs (aV (k:=aV (k:=WR.done ?_)))
  exact WC.ret fun w hw => by obtain rfl := Option.some.inj h; exact ⟨by kernel_rfl, fr_ hF hw⟩
 refine WC.skip (wc_ (WC.rs (mV (k:=sV (cj underlying2 underlying205) (k:=aV (k:=aV (k:=WR.done ?_)))))))
 exact WC.ret fun w hw => by obtain rfl := Option.some.inj h; exact ⟨by kernel_rfl, fr_ hF hw⟩
abbrev jh (J : Gh → Rowb → ae → Prop) (lY : Nat) (gb0 : Nat) (gb0v0 : Nat) (eb0v0 : Nat) (b0v0 : aa) (rowb0v0 : Rowb) (b0v1 : ByteArray) (b0v2 : Int) (r : ae) (U : List Rowb) (Γ : Gh) (v : Value) : Prop := ∃ (rowsY' : Rowb), v = .tuple #[] ∧ U = [rowsY', [(gb0, .cells #[.pointer (some ⟨gb0v0, 0, none⟩), .string b0v1, .int .i64 b0v2] 240 (0, 0))], rowb0v0] ∧ ae.ob J Γ lY rowsY' r ∧ True
theorem j4 {J : Gh → Rowb → ae → Prop} {Y : ae → ByteArray → Int → Int → Option ae} {lY : Nat} (hY : ∀ {Γ : Gh} {w : World} {row : Rowb} {s s' : ae} (y0_ : ByteArray) (hy0_ : y0_.size ≤ lim) (y1_0 : Int) (hy1_0 : I64 y1_0) (y1_1 : Int) (hy1_1 : I64 y1_1) (hs : ae.ob J Γ lY row s) (hp : Pre [row] Γ w) (h : Y s y0_ y1_0 y1_1 = some s'), YieldAt (FR none) 0 Tryz.prog lY #[.string y0_, .agg #[ii y1_0, ii y1_1]] w (Outc Γ [row] w fun U Δ v => ∃ row' : Rowb, v = .bool true ∧ U = [row'] ∧ ae.ob J Δ lY row' s')) {rowsY : Rowb} {sY : ae} (hsY : ae.ob J Γ lY rowsY sY) {gb0 : Nat} {gb0v0 : Nat} {eb0v0 : Nat} {rowb0v0 : Rowb} {b0v0 : aa} (hb0v0 : aa.ob eb0v0 Γ gb0v0 rowb0v0 b0v0) (b0v1 : ByteArray) (hb0v1 : b0v1.size ≤ lim) (b0v2 : Int) (hb0v2 : I64 b0v2) (hp : Pre [rowsY, [(gb0, .cells #[(pq gb0v0), .string b0v1, ii b0v2] 240 (0, 0))], rowb0v0] Γ w0) {r : ae} (h : eQ Y sY b0v0 b0v1 b0v2 = some r) : Calls Tryz.prog 311 #[.func (.yield lY) #[] #[], (pq gb0)] w0 (Outc Γ [rowsY, [(gb0, .cells #[(pq gb0v0), .string b0v1, ii b0v2] 240 (0, 0))], rowb0v0] w0 (jh J lY gb0 gb0v0 eb0v0 b0v0 rowb0v0 b0v1 b0v2 r)) := by
 refine goV [] func311 ntmps311 results311 hp fun F hF => ?_
 refine WC.rs (sV (q_fl 0 gx) (k:=sV (ldV 1 isAgg30) (k:=?_)))
 obtain ⟨z1, hz2, h⟩ := bnd h
 refine ecV [2] (caV call312) (fun w hp => m7 hb0v0 hp hz2) ?_
 rintro Γ3 _ _ hl4 ⟨A7, c8, row9, rfl, rfl, hr10, _⟩
 refine cwV 16 [_, _, _, _] (sV (ai rfl underlying35) (k:=mV (k:=WR.done (WC.block ?_))))
 refine WC.forI h (fun (i17 : Nat) (o13 : ae) σ w => ∃ (Γ11 : Gh), ∃ (row14 : Rowb), slots σ [(0, .func (.yield lY) #[] #[]), (1, (pq gb0)), (16, .slice A7 z1.length c8), (17, ii (z1.length : Int)), (18, ii (i17 : Int))] ∧ CC F Γ11 [rowb0v0, row9, row14, [(gb0, .cells #[(pq gb0v0), .string b0v1, ii b0v2] 240 (0, 0))]] w ∧ Gh.le Γ3 Γ11 ∧ ae.ob J Γ11 lY row14 o13 ∧ True) ?_ ?_
 ·
  intro w hw
  exact ⟨Γ3, rowsY, slK, hw, gR, (hsY.mono hl4), trivial⟩
 rintro f16 i17 o13 σ w hi18 hlt19 hge20 ⟨Γ11, row14, hsl, hw, hl12, ho15, -⟩
 refine slV hsl hw [_, _, _, _] ?_; clear hw hsl
 refine WC.rs (sV aI (k:=WR.done (WC.seq ?_)))
 refine coV (fun hb21 => ?_) (fun hb21 => ?_)
 ·
  have hl22 := ilt hb21
  have h := hlt19 hl22
  refine WC.skip (wc_ (WC.seq (WC.block (WC.rs (sV (bB (i := i17) underlying35 sizeOf9 rfl rfl rfl hl22 ((hr10.mono hl12).some_ hl22)) (k:=sV (nw (c := 0) (v := .string (gt z1 i17)) (i := 1) rfl ((hr10.mono hl12).strT_at hl22).2 rfl isAgg9 rfl rfl) (k:=aV (k:=?_))))))))
  refine WR.done (WC.rs (mV (k:=sV (q_fl 1 mW) (k:=sV (ldV 3 isAgg9) (k:=sV (mH rfl rfl rfl hb0v1 (show (⟨#[46]⟩ : ByteArray).size ≤ lim by decide)) (k:=?_))))))
  obtain ⟨hk23, h⟩ := ah h
  obtain ⟨z24, hz25, h⟩ := bnd h
  refine vqV (caV call313) (fun w hw => kL (Γ := Gh.all w) (gt z1 i17) ((hr10.mono hl12).strT_at hl22).1 (b0v1 ++ (⟨#[46]⟩ : ByteArray)) (of_decide_eq_true hk23) (Sat.all w) hz25) (k:=mV (k:=sV exV (k:=sV exV (k:=aV (k:=aV (k:=WR.done (WC.rs ?_)))))))
  refine mV (k:=?_)
  obtain ⟨hk26, h⟩ := ah h
  obtain ⟨z27, hz28, h⟩ := bnd h
  refine vqV (caV call314) (fun w hw => pE (Γ := Gh.all w) z24.1 (of_decide_eq_true hk26) (Sat.all w) hz28) (k:=mV (k:=sV exV (k:=sV exV (k:=sV exV (k:=aV (k:=aV (k:=aV (k:=?_))))))))
  refine WR.done (WC.rs (mV (k:=?_)))
  obtain ⟨hk29, h⟩ := ah h
  obtain ⟨z30, hz31, h⟩ := bnd h
  refine vqV (caV call315) (fun w hw => oN (Γ := Gh.all w) z27.1 (of_decide_eq_true hk29) (Sat.all w) hz31) (k:=mV (k:=sV exV (k:=sV exV (k:=aV (k:=aV (k:=WR.done (WC.rs ?_)))))))
  refine mV (k:=?_)
  obtain ⟨hk32, h⟩ := ah h
  obtain ⟨z33, hz34, h⟩ := bnd h
  refine vqV (caV call315) (fun w hw => oN (Γ := Gh.all w) z27.2.1 (of_decide_eq_true hk32) (Sat.all w) hz34) (k:=mV (k:=sV exV (k:=sV exV (k:=aV (k:=aV (k:=WR.done (WC.seq ?_)))))))
  refine WC.ofI (WCI.region ?_)
  refine WI.op (fun _ h => nomatch h) ?_
  refine mV (k:=?_)
  refine WI.nx ?_
  refine WI.op (fun _ h => nomatch h) ?_
  refine mV (k:=?_)
  refine WI.nx ?_
  refine WI.op (fun _ h => nomatch h) ?_
  refine vG1 (h:=fun hg35 => moV) (k:=?_)
  refine WI.nx ?_
  refine WI.op (fun _ h => nomatch h) ?_
  refine sV pkA (k:=?_)
  refine WI.nx ?_
  refine WI.op (fun _ h => nomatch h) ?_
  refine mV (k:=?_)
  refine WI.nx ?_
  refine WI.op (fun _ h => nomatch h) ?_
  refine vG1 (h:=fun hg36 => moV) (k:=?_)
  refine WI.nx ?_
  refine WI.op (fun _ h => nomatch h) ?_
  refine vG1 (h:=fun hg37 => dl rfl (grV hg37)) (k:=?_)
  refine WI.nx ?_
  refine WI.op (fun _ h => nomatch h) ?_
  refine sV pkA (k:=?_)
  refine WI.nx ?_
  refine WI.op (fun _ h => nomatch h) ?_
  refine mV (k:=?_)
  refine WI.nx ?_
  refine WI.op (fun _ h => nomatch h) ?_
  refine vG1 (h:=fun hg38 => moV) (k:=?_)
  refine WI.nx ?_
  refine WI.op (fun _ h => nomatch h) ?_
  refine vG1 (h:=fun hg39 => dl rfl (grV hg39)) (k:=?_)
  refine WI.nx ?_
  refine WI.op (fun _ h => nomatch h) ?_
  refine sV pkA (k:=?_)
  refine WI.nx ?_
  refine WI.op (fun _ h => nomatch h) ?_
  refine mV (k:=?_)
  refine WI.nx ?_
  refine WI.op (fun _ h => nomatch h) ?_
  refine vG1 (h:=fun hg40 => moV) (k:=?_)
  refine WI.nx ?_
  refine WI.op (fun _ h => nomatch h) ?_
  refine vG1 (h:=fun hg41 => dc rfl (grV hg41)) (k:=?_)
  refine WI.nx ?_
  refine WI.op (fun _ h => nomatch h) ?_
  refine sV pkA (k:=?_)
  refine WI.nx ?_
  refine WI.op (fun _ h => nomatch h) ?_
  refine mV (k:=?_)
  refine WI.nx ?_
  refine WI.op (fun _ h => nomatch h) ?_
  refine vG1 (h:=fun hg42 => moV) (k:=?_)
  refine WI.nx ?_
  refine WI.op (fun _ h => nomatch h) ?_
  refine vG1 (h:=fun hg43 => bX rfl (grV hg43)) (k:=?_)
  refine WI.nx ?_
  refine WI.op (fun _ h => nomatch h) ?_
  refine sV pkA (k:=?_)
  refine WI.nx ?_
  refine WI.op (fun _ h => nomatch h) ?_
  refine mV (k:=?_)
  refine WI.nx ?_
  refine WI.op (fun _ h => nomatch h) ?_
  refine vG1 (h:=fun hg44 => moV) (k:=?_)
  refine WI.nx ?_
  refine WI.op (fun _ h => nomatch h) ?_
  refine vG1 (h:=fun hg45 => dc rfl (grV hg45)) (k:=?_)
  refine WI.nx ?_
  refine WI.op (fun _ h => nomatch h) ?_
  refine sV pkA (k:=?_)
  refine WI.nx ?_
  refine WI.op (fun _ h => nomatch h) ?_
  refine mV (k:=?_)
  refine WI.nx ?_
  refine WI.op (fun _ h => nomatch h) ?_
  refine vG1 (h:=fun hg46 => cI (v := .func (.yield lY) #[] #[]) rfl (by kernel_rfl)) (k:=?_)
  refine WI.nx ?_
  refine WI.op (fun _ h => nomatch h) ?_
  refine vG1 (h:=fun hg47 => moV) (k:=?_)
  refine WI.nx ?_
  refine WI.op (fun _ h => nomatch h) ?_
  refine vG1 (h:=fun hg48 => moV) (k:=?_)
  refine WI.nx ?_
  refine WI.op (fun _ h => nomatch h) ?_
  refine vG1 (h:=fun hg49 => moV) (k:=?_)
  refine WI.nx ?_
  refine WI.op (fun _ h => nomatch h) ?_
  refine vG1 (h:=fun hg50 => bh (v := .agg #[ii z30.1, ii z33.1]) rfl (jB (grV hg50) (grV hg50)) (fun w => by kernel_rfl)) (k:=?_)
  refine WI.nx ?_
  refine (Bool.eq_false_or_eq_true ((((((z24.2 && z27.2.2) && (z30.2 == 0)) && (z33.2 == 0)) && (decide (z30.1 ≤ 999999))) && (decide (1 ≤ z33.1))) && (decide (z33.1 ≤ 999999)))).elim (fun hb51 => ?_) (fun hb51 => ?_)
  ·
   have h := bt hb51 h
   refine WI.sat (c0 := true) (g := ((((((z24.2 && z27.2.2) && (z30.2 == 0)) && (z33.2 == 0)) && (decide (z30.1 ≤ 999999))) && (decide (1 ≤ z33.1))) && (decide (z33.1 ≤ 999999)))) rfl rfl rfl hb51 ?_
   obtain ⟨hk52, h⟩ := ah h
   obtain ⟨hk53, h⟩ := ah h
   obtain ⟨z54, hz55, h⟩ := bnd h
   refine WI.yield (is := [2]) rfl rfl (fun _ h => nomatch h) (pJ rfl (grV hb51) (u7 (grV hb51) (grV hb51))) rfl (fun w hp => hY (gt z1 i17) ((hr10.mono hl12).strT_at hl22).1 z30.1 (dP hk52) z33.1 (dP hk53) ho15 hp hz55) ?_
   rintro Γ56 _ _ hl57 ⟨row60, rfl, rfl, hr61⟩
   change WI _ _ _ _ (CC F Γ56 [row60, rowb0v0, row9, [(gb0, .cells #[(pq gb0v0), .string b0v1, ii b0v2] 240 (0, 0))]]) _ _ (upd _ 76 (.bool true))
   refine WI.sat (c0 := true) (g := ((((((z24.2 && z27.2.2) && (z30.2 == 0)) && (z33.2 == 0)) && (decide (z30.1 ≤ 999999))) && (decide (1 ≤ z33.1))) && (decide (z33.1 ≤ 999999)))) rfl rfl rfl hb51 ?_
   refine WI.op (fun _ h => nomatch h) ?_
   refine sV dJ (k:=?_)
   refine WI.nx ?_
   refine WI.op (fun _ h => nomatch h) ?_
   refine sV (k6 (v := .bool (!true)) rfl rfl hb51 (by kernel_rfl)) (k:=?_)
   refine WI.nx ?_
   refine WI.nil ?_
   change WC _ _ _ _ _ _
   refine WC.cfk (b := (!true)) (by kernel_rfl) (nott rfl) ?_
   refine WC.skip (wc_ ?_)
   refine WC.region ?_
   refine sV (aK rfl rfl rfl (bx hl22 (hr10.mono hl12).le)) (k:=mV (k:=?_))
   refine WR.nil ?_
   intro w hw
   exact ⟨hl22, z54, h, Γ56, row60, slK, (hw.on [1, 1, 0, 0]), (hl12.trans hl57), hr61, trivial⟩
  have h := bf hb51 h
  refine WI.op (fun _ h => nomatch h) ?_
  refine WR.unsat (c0 := true) (g := ((((((z24.2 && z27.2.2) && (z30.2 == 0)) && (z33.2 == 0)) && (decide (z30.1 ≤ 999999))) && (decide (1 ≤ z33.1))) && (decide (z33.1 ≤ 999999)))) rfl rfl rfl hb51 rfl ?_
  refine WI.nx ?_
  refine WI.op (fun _ h => nomatch h) ?_
  refine WR.unsat (c0 := true) (g := ((((((z24.2 && z27.2.2) && (z30.2 == 0)) && (z33.2 == 0)) && (decide (z30.1 ≤ 999999))) && (decide (1 ≤ z33.1))) && (decide (z33.1 ≤ 999999)))) rfl rfl rfl hb51 rfl ?_
  refine WI.nx ?_
  refine WI.op (fun _ h => nomatch h) ?_
  refine sV (iR (v := .bool false) rfl rfl hb51 (by kernel_rfl)) (k:=?_)
  refine WI.nx ?_
  refine WI.nil ?_
  change WC _ _ _ _ _ _
  refine WC.cfk (b := false) (by kernel_rfl) rfl ?_
  refine WC.skip (wc_ ?_)
  refine WC.region ?_
  refine sV (aK rfl rfl rfl (bx hl22 (hr10.mono hl12).le)) (k:=mV (k:=?_))
  refine WR.nil ?_
  intro w hw
  exact ⟨hl22, o13, h, Γ11, row14, slK, hw, hl12, ho15, trivial⟩
 have h := hge20 (ige hb21)
 refine WC.exit ?_
 intro w hw
 obtain rfl := Option.some.inj h
 subst hF
 exact bO (is := [2, 2, 0]) (by kernel_rfl) hw rfl ⟨row14, rfl, rfl, ho15, trivial⟩
abbrev lg (gd : Nat) (ed : Nat) (r : aa × Int) (U : List Rowb) (Γ : Gh) (v : Value) : Prop := ∃ (rowd' : Rowb), v = .int .i64 r.2 ∧ U = [rowd'] ∧ aa.ob ed Γ gd rowd' r.1 ∧ I64 r.2 ∧ True
theorem lr {gd ed : Nat} {rowd : Rowb} {d : aa} (hd : aa.ob ed Γ gd rowd d) (name : ByteArray) (hname : name.size ≤ lim) (hp : Pre [rowd] Γ w0) {r : aa × Int} (h : gJ d name = some r) : Calls Tryz.prog 234 #[(pq gd), .string name] w0 (Outc Γ [rowd] w0 (lg gd ed r)) := by
 refine goV [4] func234 ntmps234 results234 hp fun F hF => ?_
 refine WC.rs ?_
 refine bxV (v := .string name) fun g1 => ?_
 refine aV (k:=WR.done (WC.seq (WC.rs (mV (k:=sV (ldV 0 isAgg9) (k:=?_))))))
 obtain ⟨z2, hz3, h⟩ := bnd h
 refine vqV (caV call308) (fun w hw => hZ (Γ := Gh.all w) (hd.mono hw.sat.le_all) (hw.ra 1 rfl) name hname (Sat.all w) hz3) (k:=aV (k:=WR.done (WC.rs (mV (k:=sV ci (k:=WR.done ?_))))))
 refine ciV h (fun hb4 h => ?_) (fun hb4 h => ?_)
 ·
  refine WC.rs (mV (k:=aV (k:=WR.done ?_)))
  refine WC.ret ?_
  intro w hw
  obtain ⟨hk5, h⟩ := ah h
  obtain rfl := Option.some.inj h
  subst hF
  exact bO (is := [1]) (by kernel_rfl) hw rfl ⟨rowd, rfl, rfl, hd, (dP hk5), trivial⟩
 refine WC.skip (wc_ (WC.rs (mV (k:=sV (jG (v := .func (.func 316) #[] #[(pq g1)]) rfl (by kernel_rfl)) (k:=sV (bh (v := .agg #[.func (.func 316) #[] #[(pq g1)], .string ByteArray.empty, .slice none 0 0]) rfl (mR rfl) (fun w => by kernel_rfl)) (k:=?_))))))
 intro w hw; obtain ⟨Γ6, hw, hl7, hr8⟩ := hw.seal (i := 0) rfl
 have hg9 := hr8 _ (List.mem_singleton.2 rfl)
 refine WR.here (C := CC F Γ6 [_, _]) ?_ hw
 clear hw
 have hf10 : aj.ok Γ6 none g1 (aj.disk_Disk_Remove_1 name) := ⟨⟨hg9, hname⟩, trivial⟩
 obtain ⟨z11, hz12, h⟩ := bnd h
 refine ecV [1] (caV call309) (fun w hp => iH (hd.mono hl7) (Ac_2 := none) (cc_2 := 0) (⟨(aj.disk_Disk_Remove_1 name), ByteArray.empty, []⟩ : aE) ⟨hf10, (show (ByteArray.empty : ByteArray).size ≤ lim by decide), nilV⟩ hp hz12) ?_
 rintro Γ13 _ _ hl14 ⟨row17, rfl, rfl, hr18, hr19, _⟩
 refine cwV 15 [_, _] (aV (k:=WR.done ?_))
 exact WC.ret fun w hw => re_ r [0] h hF hw ⟨row17, rfl, rfl, hr18, hr19, trivial⟩
def JRem (Γb : Gh) (l gl g3 fT : Nat) (caps : Array Value) (rowT : Rowb) (rec : Loop) (Γ : Gh) (row : Rowb) (s : ae) : Prop := ∃ (A : Option Addr) (c : Nat) (rowo : Rowb), Γb.le Γ ∧ row = ([[(l, .loop rec)], [(gl, .cells #[.slice A s.length c] 35 (0, 0))], rowo, [(g3, .cells #[.func (.func fT) #[] caps] 247 (0, 0))], rowT] : List Rowb).flatten ∧ Own strT Γ 9 rowo A c s
theorem ke {gd : Nat} {name : ByteArray} {gen : Int} (hp : Pre [] Γ w0) : Calls Tryz.prog 233 #[.agg #[(pq gd), .string name, ii gen]] w0 (Outc Γ [] w0 (fun U Δ v => ∃ g1 : Nat, v = .func (.func 311) #[] #[(pq g1)] ∧ U = [[(g1, .cells #[(pq gd), .string name, ii gen] 240 (0, 0))]])) := by
 refine goV [2] func233 ntmps233 results233 hp fun F hF => ?_
 refine WC.rs ?_
 refine bxV (v := .agg #[(pq gd), .string name, ii gen]) fun g1 => ?_
 refine aU (v := .nilFunc) (k:=?_)
 refine WR.nil ?_
 change WC _ _ _ _ _ _
 refine WC.rs (sV (jG (v := .func (.func 311) #[] #[(pq g1)]) rfl (by kernel_rfl)) (k:=aU (v := .func (.func 311) #[] #[(pq g1)]) (k:=?_)))
 refine WR.nil ?_
 change WC _ _ _ _ _ _
 refine WC.ret ?_
 intro w hw
 subst hF
 exact bO (is := [0]) (by kernel_rfl) hw rfl ⟨g1, rfl, rfl⟩
set_option maxRecDepth 100000 in
set_option maxHeartbeats 800000 in
theorem fl {Γ : Gh} {w0 : World} {gd ed : Nat} {rowd : Rowb} {d : aa} (hd : aa.ob ed Γ gd rowd d) (name : ByteArray) (hname : name.size ≤ lim) (gen : Int) (hgen : I64 gen) {fT : Nat} {caps : Array Value} {rowT : Rowb} (pred : Int → Int → Option Bool)
  (hT : ∀ {Γ2 : Gh} {w : World} (x : Int) (hx : I64 x) (y : Int) (hy : I64 y), Γ.le Γ2 → Pre [rowT] Γ2 w → ∀ {q : Bool}, pred x y = some q → Calls Tryz.prog fT (#[ii x, ii y] ++ caps) w (fun e w' => e = .returned (.bool q) ∧ Fr no w w'))
  (eT : ∀ (args : Array Value) (w : World), (callFunc fT args).run Tryz.prog w = .ok (.enter fT args) w) (hp : Pre [rowd, rowT] Γ w0) {r : aa} (h : dF d name gen pred = some r) :
  Calls Tryz.prog 135 #[.agg #[(pq gd), .string name, ii gen], .func (.func fT) #[] caps] w0 (Outc Γ [rowd, rowT] w0 (fun U Δ v => ∃ rowd', v = .tuple #[] ∧ U = [rowd', rowT] ∧ aa.ob ed Δ gd rowd' r)) := by
 obtain ⟨z, hz, h⟩ := bnd h
 refine ql (n := 34) (rs := []) (args := [.agg #[(pq gd), .string name, ii gen], .func (.func fT) #[] caps]) func135 rfl ntmps135 results135 rfl ?_
 obtain ⟨F, hF⟩ : ∃ F : Fm, F = ⟨ids [rowd, rowT], w0, Γ⟩ := ⟨_, rfl⟩
 refine WC2.here (C := CC F Γ [rowd, rowT]) ?_ (hF ▸ hp.start)
 refine WC2.seq ?_
 refine WC.region ?_
 refine bxV (v := .agg #[(pq gd), .string name, ii gen]) fun g2 => ?_
 refine bxV (v := .func (.func fT) #[] caps) fun g3 => ?_
 refine WR.nil ?_
 change WC2 _ _ _ _ _ _
 refine WC2.seq ?_
 refine WC.region ?_
 refine alV zeroValue35 fun gl => ?_
 refine WR.nil ?_
 change WC2 _ _ _ _ _ _
 refine WC2.seq3 ?_
 refine WC.region ?_
 refine sV (ldaV 2 [(pq gd), .string name, ii gen] isAgg240 sizeOf240) (k:=?_)
 refine ecV [] (caV call233) (fun w hp => ke (gd := gd) (name := name) (gen := gen) hp) ?_
 rintro Γ1 _ _ hl1 ⟨g1, rfl, rfl⟩
 refine cwV 10 [_, _, _, _, _, _] ?_
 refine WR.nil ?_
 change WC3 _ _ _ _ _ _ _
 refine WC3.rangeF (n := 34) (gf := 311) (lb := #[(pq g1)]) (by kernel_rfl) call311 ?_
 intro l D rec w hst hpe hps has hbo hagr hw
 have hY : ∀ {Γa : Gh} {w : World} {row : Rowb} {s s' : ae} (y0_ : ByteArray) (hy0_ : y0_.size ≤ lim) (y1_0 : Int) (hy1_0 : I64 y1_0) (y1_1 : Int) (hy1_1 : I64 y1_1) (hs : ae.ob (JRem Γ l gl g3 fT caps rowT rec) Γa l row s) (hp : Pre [row] Γa w) (h : fx pred s y0_ y1_0 y1_1 = some s'),
   YieldAt (FR none) 0 Tryz.prog l #[.string y0_, .agg #[ii y1_0, ii y1_1]] w (Outc Γa [row] w fun U Δ v => ∃ row' : Rowb, v = .bool true ∧ U = [row'] ∧ ae.ob (JRem Γ l gl g3 fT caps rowT rec) Δ l row' s') := by
  intro Γa w row s s' f hf x hx y hy hs hp h
  obtain ⟨q, hq, h⟩ := bnd h
  obtain ⟨Γ', hle, Ao, co, rowo, hgb, rfl, ho⟩ := hs
  have hgb := hgb.trans hle
  have ho := ho.mono hle
  refine YieldAt.mono (R := Outc Γa [[(l, .loop rec)], [(gl, .cells #[.slice Ao s.length co] 35 (0, 0))], rowo, [(g3, .cells #[.func (.func fT) #[] caps] 247 (0, 0))], rowT] w fun U Δ v => ∃ A2 c2 row2, v = .bool true ∧ U = [[(l, .loop rec)], [(gl, .cells #[.slice A2 s'.length c2] 35 (0, 0))], row2, [(g3, .cells #[.func (.func fT) #[] caps] 247 (0, 0))], rowT] ∧ Own strT Δ 9 row2 A2 c2 s') ?_ ?_
  ·
   refine se has hbo hp.parts hst hpe (by rw [hps]; rfl) (N := ⟨34, []⟩) (σ1 := _) (by rw [hps]; exact hagr.par2 rfl rfl) ?_
   intro F hF
   refine WCI.rs ?_
   refine WI.op (fun _ h => nomatch h) ?_
   refine aV (k:=?_)
   refine WI.nx ?_
   refine WI.done ?_
   refine WCI.region ?_
   refine WI.op (fun _ h => nomatch h) ?_
   refine alV zeroValue367 fun g6 => ?_
   refine WI.nx ?_
   refine WI.op (fun _ h => nomatch h) ?_
   refine stV 0 (.agg #[ii x, ii y]) #[ii x, ii y] sizeOf367 (k:=?_)
   refine WI.nx ?_
   refine WI.nil ?_
   intro w hw
   have hw : Cur F Γa ([(l, .loop rec)] :: [[(g6, .cells #[ii x, ii y] 367 (0, 0))], [(gl, .cells #[.slice Ao s.length co] 35 (0, 0))], rowo, [(g3, .cells #[.func (.func fT) #[] caps] 247 (0, 0))], rowT]) w := hw.permL (List.Perm.swap _ _ _)
   refine ⟨Γa, _, hw, ?_⟩
   refine WCI.block ?_
   refine WCI.rs ?_
   refine WI.op (fun _ h => nomatch h) ?_
   refine sV (ldV 4 isAgg247) (k:=?_)
   refine WI.nx ?_
   refine WI.op (fun _ h => nomatch h) ?_
   refine sV (eV (0) underlying367 sizeOf2 rfl rfl rfl rfl rfl) (k:=?_)
   refine WI.nx ?_
   refine WI.op (fun _ h => nomatch h) ?_
   refine sV (ldV 1 isAgg2) (k:=?_)
   refine WI.nx ?_
   refine WI.op (fun _ h => nomatch h) ?_
   refine sV (eV (1) underlying367 sizeOf2 rfl rfl rfl rfl rfl) (k:=?_)
   refine WI.nx ?_
   refine WI.op (fun _ h => nomatch h) ?_
   refine sV (ldV 1 isAgg2) (k:=?_)
   refine WI.nx ?_
   refine WI.op (fun _ h => nomatch h) ?_
   refine vc rfl rfl rfl (dU (v := .bool q) (fO (caps := caps) (args := #[ii x, ii y] ++ caps) eT rfl (by kernel_rfl) (by kernel_rfl)) (fun w hw => (by exact hT x hx y hy hgb (hw.on [5]).pre hq))) ?_
   refine WI.nx ?_
   refine WI.done ?_
   refine WCI.cond (b := q) (by kernel_rfl) (fun hb => ?_) (fun hb => ?_)
   ·
    have h := bt hb h
    obtain ⟨hk, h⟩ := ah h
    obtain rfl := Option.some.inj h
    refine WCI.region ?_
    refine WI.op (fun _ h => nomatch h) ?_
    refine sV (ldV 2 isAgg35) (k:=?_)
    refine WI.nx ?_
    refine WI.op (fun _ h => nomatch h) ?_
    refine mV (k:=?_)
    refine WI.nx ?_
    refine WI.op (fun _ h => nomatch h) ?_
    refine bsV #[.string f] 9 fun gb => ?_
    refine WI.nx ?_
    refine WI.op (fun _ h => nomatch h) ?_
    refine apV 4 [f] xw ho (of_decide_eq_true hk) (fun w hw => bw (i := 0) rfl (by exact ⟨rfl, hf⟩) hw) ?_
    intro row2 A2 c2 ho2
    refine WI.nx ?_
    refine WI.op (fun _ h => nomatch h) ?_
    refine stV 3 (.slice A2 (s ++ [f]).length c2) #[.slice A2 (s ++ [f]).length c2] sizeOf35 (k:=?_)
    refine WI.nx ?_
    refine WI.nil ?_
    intro w hw
    exact ⟨Γa, _, hw.on [1, 2, 2, 2, 2], A2, c2, row2, rfl, rfl, ho2⟩
   have h := bf hb h
   obtain rfl := Option.some.inj h
   refine WCI.skip ?_
   intro w hw
   exact ⟨Γa, _, hw.on [0, 1, 1, 1, 1], Ao, co, rowo, rfl, rfl, ho⟩
  rintro e w2 ⟨v, rfl, Δ, U, he, A2, c2, row2, rfl, rfl, ho2⟩
  exact ⟨_, rfl, Δ, _, he.glue, _, rfl, rfl, YS.of ⟨A2, c2, row2, hgb.trans he.le, rfl, ho2⟩⟩
 have hw := hw.pad
 have h2 := hw.fold (is := [1, 3, 0, 2, 4]) rfl rfl
 have h3 : Cur F Γ1 ([([[(l, .loop rec)], [(gl, .cells #[.slice none 0 0] 35 (0, 0))], [], [(g3, .cells #[.func (.func fT) #[] caps] 247 (0, 0))], rowT] : List Rowb).flatten, [(g1, .cells #[(pq gd), .string name, ii gen] 240 (0, 0))], rowd] ++ [[(D, .deferred (some []))], [(g2, .cells #[(pq gd), .string name, ii gen] 240 (0, 0))]]) w := h2.pick (is := [0, 1, 2]) rfl
 refine (j4 (J := JRem Γ l gl g3 fT caps rowT rec) (Y := fx pred) (lY := l) (sY := []) hY (YS.of ⟨none, 0, [], hl1, rfl, Own.nil _ _ _⟩) (hd.mono hl1) name hname gen hgen (h2.only (is := [0, 1, 2]) rfl).pre hz).mono ?_
 rintro e w' ⟨v, rfl, Δ, U', he, rowY', rfl, rfl, hJ', -⟩
 have h4 := h3.eff he
 obtain ⟨Γ', hle, A', c', rowo', -, hrow, ho'⟩ := hJ'
 have ho' := ho'.mono hle
 have h5 := h4.unfold (i := 0) rfl hrow
 have hd' := (hd.mono hl1).mono he.le
 refine ⟨_, rfl, Δ, [[(gl, .cells #[.slice A' z.length c'] 35 (0, 0))], rowo', rowT, rowd, [(g2, .cells #[(pq gd), .string name, ii gen] 240 (0, 0))]], h5.only (is := [0, 6, 0, 0, 1, 2, 2]) rfl, ?_⟩
 refine WC2.of ?_
 refine WC.rs (sV (ldV 1 isAgg35) (k:=sV (ai rfl underlying35) (k:=mV (k:=?_))))
 refine WR.nil ?_
 change WC _ _ _ _ _ _
 refine WC.block ?_
 refine WC.forI h (fun (i : Nat) (x : aa) σ w => ∃ (Γ2 : Gh) (rowd2 : Rowb), slots σ [(2, (pq g2)), (23, .slice A' z.length c'), (24, ii (z.length : Int)), (25, ii (i : Int))] ∧ CC F Γ2 [[(D, .deferred (some []))], [(gl, .cells #[.slice A' z.length c'] 35 (0, 0))], rowo', rowT, rowd2, [(g2, .cells #[(pq gd), .string name, ii gen] 240 (0, 0))]] w ∧ Gh.le Δ Γ2 ∧ aa.ob ed Γ2 gd rowd2 x ∧ True) ?_ ?_
 ·
  intro w hw
  exact ⟨Δ, rowd, slK, hw, gR, hd', trivial⟩
 rintro f11 i x σ w hi13 hlt14 hge15 ⟨Γ2, rowd2, hsl, hw, hl5, hd2, -⟩
 refine slV hsl hw [_, _, _, _, _, _] ?_; clear hw hsl
 refine WC.rs (sV aI (k:=?_))
 refine WR.nil ?_
 change WC _ _ _ _ _ _
 refine WC.seq ?_
 refine coV (fun hb16 => ?_) (fun hb16 => ?_)
 ·
  have hl17 := ilt hb16
  have h := hlt14 hl17
  refine WC.skip (wc_ (WC.seq (WC.block (WC.rs (sV (bB (i := i) underlying35 sizeOf9 rfl rfl rfl hl17 ((ho'.mono hl5).some_ hl17)) (k:=sV (nw (c := 0) (v := .string (gt z i)) (i := 2) rfl ((ho'.mono hl5).strT_at hl17).2 rfl isAgg9 rfl rfl) (k:=aV (k:=?_))))))))
  refine WR.nil ?_
  change WC _ _ _ _ _ _
  refine WC.region ?_
  refine sV (q_fl 0 gx) (k:=sV (ldV 5 isAgg30) (k:=mV (k:=?_)))
  obtain ⟨y, hy, h⟩ := bnd h
  refine ecV [4] (caV call234) (fun w hp => lr hd2 (gt z i) ((ho'.mono hl5).strT_at hl17).1 hp hy) ?_
  rintro Γ3 _ _ hl3 ⟨rowd3, rfl, rfl, hd3, hr3, -⟩
  refine cwV 32 [_, _, _, _, _, _] ?_
  refine WR.nil ?_
  change WC _ _ _ _ _ _
  refine WC.region ?_
  refine sV (aK rfl rfl rfl (bx hl17 ho'.le)) (k:=mV (k:=?_))
  refine WR.nil ?_
  intro w hw
  exact ⟨hl17, y.1, h, Γ3, rowd3, slK, hw.on [1, 1, 1, 1, 0, 0], hl5.trans hl3, hd3, trivial⟩
 have h := hge15 (ige hb16)
 obtain rfl := Option.some.inj h
 refine WC.exit ?_
 intro w hw
 subst hF
 exact yG (N := ⟨34, []⟩) (is := [3, 2]) (by kernel_rfl) hw rfl ⟨rowd2, rfl, rfl, hd2⟩
abbrev nW (gb0 : Nat) (b0v : Int) (r : Bool) (U : List Rowb) (Γ : Gh) (v : Value) : Prop := v = .bool r ∧ U = [[(gb0, .cells #[.int .i64 b0v] 2 (0, 0))]] ∧ True
theorem nG (g_ : Int) (hg_ : I64 g_) (a1 : Int) (ha1 : I64 a1) {gb0 : Nat} (b0v : Int) (hb0v : I64 b0v) (hp : Pre [[(gb0, .cells #[ii b0v] 2 (0, 0))]] Γ w0) {r : Bool} (h : fX g_ a1 b0v = some r) : Calls Tryz.prog 136 #[ii g_, ii a1, (pq gb0)] w0 (Outc Γ [[(gb0, .cells #[ii b0v] 2 (0, 0))]] w0 (nW gb0 b0v r)) := by
 refine goV [5] func136 ntmps136 results136 hp fun F hF => ?_
 refine WC.rs (aV (k:=WR.done (WC.rs (mV (k:=sV (ldV 0 isAgg2) (k:=sV ci (k:=aV (k:=?_))))))))
 refine WR.done ?_
 exact WC.ret fun w hw => re_ r [0] h hF hw ⟨rfl, rfl, trivial⟩
theorem lS (n : Int) (hn : I64 n) (hs : Sat Γ w0) {r : ByteArray} (h : j9 n = some r) : CQ Tryz.prog 317 #[ii n] w0 (.string r) := by
 refine goQ [2] func317 ntmps317 results317 hs fun F hF => ?_
 refine WC.rs (aV (k:=WR.done (WC.rs ?_)))
 refine alV zeroValue534 fun g1 => ?_
 have ho2 : Own ar Γ 534 [(g1, .cells #[.int .u8 0, .int .u8 0, .int .u8 0, .int .u8 0, .int .u8 0, .int .u8 0, .int .u8 0, .int .u8 0, .int .u8 0, .int .u8 0, .int .u8 0, .int .u8 0, .int .u8 0, .int .u8 0, .int .u8 0, .int .u8 0, .int .u8 0, .int .u8 0, .int .u8 0, .int .u8 0] 534 (0, 0))] (some ⟨g1, 0, none⟩) 20 (List.replicate 20 (b8 0)) := sa (T := ar) 20 [.int .u8 0] (b8 0) rfl (by show [Value.int .u8 0] = [Value.int .u8 _]; rw [fS (by decide)]) (by decide)
 refine WR.done (WC.rs (aV (k:=WR.done (WC.rs (mV (k:=sV (cj underlying205 underlying2) (k:=aV (k:=?_))))))))
 refine WR.done ?_
 refine WC.cut (fun σ w => ∃ (u_3 : Int), fR n u_3 = some r ∧ slots σ [(0, ii n), (3, (pq g1)), (4, ii 20), (5, .int .u64 u_3)] ∧ CC F Γ [[(g1, .cells #[.int .u8 0, .int .u8 0, .int .u8 0, .int .u8 0, .int .u8 0, .int .u8 0, .int .u8 0, .int .u8 0, .int .u8 0, .int .u8 0, .int .u8 0, .int .u8 0, .int .u8 0, .int .u8 0, .int .u8 0, .int .u8 0, .int .u8 0, .int .u8 0, .int .u8 0, .int .u8 0] 534 (0, 0))]] w ∧ U64 u_3 ∧ True) ?_ ?_
 ·
  refine WC.rs (mV (k:=sV aI (k:=WR.done ?_)))
  refine ciV h (fun hb5 h => ?_) (fun hb5 h => ?_)
  ·
   refine WC.region ?_
   refine mV (k:=sV yt (k:=aV (k:=?_)))
   refine WR.nil ?_
   intro w hw
   exact ⟨(wu64 (0 - (wu64 n))), h, slK, hw, (mE _), trivial⟩
  refine WC.skip ?_
  intro w hw
  exact ⟨(wu64 n), h, slK, hw, (mE _), trivial⟩
 rintro σ w ⟨u_3, h, hsl, hw, hr4, -⟩
 refine slV hsl hw [_] ?_; clear hw hsl
 refine WC.seq (WC.block ?_)
 refine WC.loopN h (fun (s : Int × Int × (List UInt8)) σ w => match s with | (at_6, u_8, x10) => ∃ (row11 : Rowb), slots σ [(0, ii n), (3, (pq g1)), (4, ii at_6), (5, .int .u64 u_8)] ∧ CC F Γ [row11] w ∧ I64 at_6 ∧ U64 u_8 ∧ x10.length = 20 ∧ Own ar Γ 534 row11 (some ⟨g1, 0, none⟩) 20 x10 ∧ True) ?_ ?_
 ·
  intro w hw
  exact ⟨[(g1, .cells #[.int .u8 0, .int .u8 0, .int .u8 0, .int .u8 0, .int .u8 0, .int .u8 0, .int .u8 0, .int .u8 0, .int .u8 0, .int .u8 0, .int .u8 0, .int .u8 0, .int .u8 0, .int .u8 0, .int .u8 0, .int .u8 0, .int .u8 0, .int .u8 0, .int .u8 0, .int .u8 0] 534 (0, 0))], slK, hw, iV, hr4, List.length_replicate, ho2, trivial⟩
 rintro f14 ⟨at_6, u_8, x10⟩ σ w h ⟨row11, hsl, hw, hr7, hr9, hn13, ho12, -⟩
 refine slV hsl hw [_] ?_; clear hw hsl
 refine WC.seq (WC.rs (mV (k:=sV dl (k:=mV (k:=vG0 (h:=fun hg18 => moV) (k:=vG0 (h:=fun hg19 => bJ rfl (grV hg19)) (k:=sV pkO (k:=?_))))))))
 refine WR.done ?_
 refine ciV h (fun hb20 h => ?_) (fun hb20 h => ?_)
 ·
  refine WC.skip (wc_ (WC.block (WC.rs (mV (k:=sV eI (k:=aV (k:=WR.done ?_)))))))
  refine WC.rs (mV (k:=mV (k:=sV (sG rfl rfl rfl (by decide)) (k:=sV cK (k:=sV (cj underlying5 underlying205) (k:=?_))))))
  obtain ⟨hk21, h⟩ := ah h
  refine sV (vC underlying534 sizeOf5 rfl rfl rfl hk21) (k:=?_)
  refine kf (T := ar) (q := (w64 (at_6 - 1)).toNat) (v := .int .u8 (wu8 (wu64 (48 + (u_8.tmod 10))))) (y := (b8 (wu8 (wu64 (48 + (u_8.tmod 10)))))) rfl rfl rfl rfl (by kernel_rfl) sizeOf5 (by exact (by show [Value.int .u8 (wu8 (wu64 (48 + (u_8.tmod 10))))] = [Value.int .u8 _]; rw [fS (pp _)])) (i := 0) rfl ho12 (ltq (cw hk21) hn13.symm) ?_
  intro row22 ho23
  refine WR.done ?_
  refine WC.region ?_
  refine mV (k:=sV (nl rfl rfl rfl (by decide)) (k:=aV (k:=?_)))
  refine WR.nil ?_
  intro w hw
  exact ⟨((w64 (at_6 - 1)), (wu64 (u_8.tdiv 10)), (List.set x10 ((w64 (at_6 - 1)).toNat) (b8 (wu8 (wu64 (48 + (u_8.tmod 10))))))), h, row22, slK, hw, (dL _), (mE _), (List.length_set.trans hn13), ho23, trivial⟩
 refine WC.exit ?_
 change WC _ _ _ _ _ _
 refine WC.cut (fun σ w => ∃ (at_24 : Int), ∃ (x26 : List UInt8), ∃ (row27 : Rowb), fV at_24 x26 = some r ∧ slots σ [(3, (pq g1)), (4, ii at_24)] ∧ CC F Γ [row27] w ∧ I64 at_24 ∧ x26.length = 20 ∧ Own ar Γ 534 row27 (some ⟨g1, 0, none⟩) 20 x26 ∧ True) ?_ ?_
 ·
  refine WC.rs (mV (k:=sV aI (k:=WR.done ?_)))
  refine ciV h (fun hb30 h => ?_) (fun hb30 h => ?_)
  ·
   refine WC.rs (mV (k:=sV eI (k:=aV (k:=WR.done ?_))))
   refine WC.region ?_
   refine mV (k:=?_)
   obtain ⟨hk31, h⟩ := ah h
   refine sV (vC underlying534 sizeOf5 rfl rfl rfl hk31) (k:=?_)
   refine kf (T := ar) (q := (w64 (at_6 - 1)).toNat) (v := .int .u8 45) (y := (b8 45)) rfl rfl rfl rfl (by kernel_rfl) sizeOf5 (by exact (by show [Value.int .u8 45] = [Value.int .u8 _]; rw [fS (by decide)])) (i := 0) rfl ho12 (ltq (cw hk31) hn13.symm) ?_
   intro row32 ho33
   refine WR.nil ?_
   intro w hw
   exact ⟨(w64 (at_6 - 1)), (List.set x10 ((w64 (at_6 - 1)).toNat) (b8 45)), row32, h, slK, hw, (dL _), (List.length_set.trans hn13), ho33, trivial⟩
  refine WC.skip ?_
  intro w hw
  exact ⟨at_6, x10, row11, h, slK, hw, hr7, hn13, ho12, trivial⟩
 rintro σ w ⟨at_24, x26, row27, h, hsl, hw, hr25, hn29, ho28, -⟩
 refine slV hsl hw [_] ?_; clear hw hsl
 refine WC.rs (mV (k:=?_))
 obtain ⟨hk34, h⟩ := ah h
 refine sV (qz (lo := at_24.toNat) (xs := x26) underlying534 sizeOf5 rfl rfl (dp rfl hk34) hn29 (aY hk34)) (k:=sV (xN (i := 0) (lo := at_24.toNat) rfl (ho28) underlying61 underlying5 underlying9 rfl rfl (Nat.le_of_eq hn29)) (k:=aV (k:=WR.done ?_)))
 exact WC.ret fun w hw => rq_ r h hF hw
theorem kJ {gp__0 : Nat} (p__1 : ByteArray) (hp__1 : p__1.size ≤ lim) (p__2 : Int) (hp__2 : I64 p__2) (gen : Int) (hgen : I64 gen) (part : Int) (hpart : I64 part) (hs : Sat Γ w0) {r : ByteArray} (h : fZ p__1 p__2 gen part = some r) : CQ Tryz.prog 235 #[.agg #[(pq gp__0), .string p__1, ii p__2], ii gen, ii part] w0 (.string r) := by
 refine goQ [6] func235 ntmps235 results235 hs fun F hF => ?_
 refine WC.rs ?_
 refine bxV (v := .agg #[(pq gp__0), .string p__1, ii p__2]) fun g1 => ?_
 refine aV (k:=WR.done (WC.seq ?_))
 refine drV ?_
 refine zV (q_fl 1 mW) (k:=zV (ldV 0 isAgg9) (k:=zV (mH rfl rfl rfl hp__1 (show (⟨#[46]⟩ : ByteArray).size ≤ lim by decide)) (k:=zV moV (k:=?_))))
 obtain ⟨z2, hz3, h⟩ := bnd h
 refine wc rfl rfl rfl (dU (caV call317) (fun w hw => lS (Γ := Gh.all w) gen hgen (Sat.all w) hz3)) ?_
 obtain ⟨hk4, h⟩ := ah h
 obtain ⟨hk5, h⟩ := ah h
 refine zV (mH rfl rfl rfl (of_decide_eq_true hk4) (of_decide_eq_true hk5)) (k:=?_)
 obtain ⟨hk6, h⟩ := ah h
 refine zV (mH rfl rfl rfl (of_decide_eq_true hk6) (show (⟨#[46]⟩ : ByteArray).size ≤ lim by decide)) (k:=zV moV (k:=?_))
 obtain ⟨z7, hz8, h⟩ := bnd h
 refine wc rfl rfl rfl (dU (caV call317) (fun w hw => lS (Γ := Gh.all w) part hpart (Sat.all w) hz8)) ?_
 obtain ⟨hk9, h⟩ := ah h
 obtain ⟨hk10, h⟩ := ah h
 refine zV (mH rfl rfl rfl (of_decide_eq_true hk9) (of_decide_eq_true hk10)) (k:=zV aoV (k:=?_))
 refine WQ.nil ?_
 change WC _ _ _ _ _ _
 exact WC.ret fun w hw => rq_ r h hF hw
abbrev mj (gl : Nat) (el : Nat × Nat) (edk0 : Nat) (r : aq × aa × (List (List UInt8))) (U : List Rowb) (Γ : Gh) (v : Value) : Prop := ∃ (rowl' : Rowb), ∃ (rowdk0' : Rowb), ∃ (A0 : Option Addr), ∃ (c0 : Nat), ∃ (row0 : Rowb), v = .slice A0 r.2.2.length c0 ∧ U = [rowl', rowdk0', row0] ∧ aq.ob el Γ gl rowl' r.1 ∧ aa.ob edk0 Γ el.2 rowdk0' r.2.1 ∧ Own (slT ar) Γ 61 row0 A0 c0 r.2.2 ∧ True
theorem mw {gl : Nat} {el : Nat × Nat} {rowl : Rowb} {l : aq} (hl : aq.ob el Γ gl rowl l) {edk0 : Nat} {rowdk0 : Rowb} {dk0 : aa} (hdk0 : aa.ob edk0 Γ el.2 rowdk0 dk0) (hp : Pre [rowl, rowdk0] Γ w0) {r : aq × aa × (List (List UInt8))} (h : ib l dk0 = some r) : Calls Tryz.prog 137 #[(pq gl)] w0 (Outc Γ [rowl, rowdk0] w0 (mj gl el edk0 r)) := by
 refine goV [2] func137 ntmps137 results137 hp fun F hF => ?_
 refine WC.rs (aV (k:=WR.done (WC.rs (aV (k:=WR.done ?_)))))
 refine WC.cut (fun σ w => ∃ (out_3 : List (List UInt8)), ∃ (o8 : aq), ∃ (o11 : aa), ∃ (Γ1 : Gh), ∃ (A4 : Option Addr), ∃ (c5 : Nat), ∃ (row6 : Rowb), ∃ (row9 : Rowb), ∃ (row12 : Rowb), dW out_3 o8 o11 = some r ∧ slots σ [(0, (pq gl)), (3, .slice A4 out_3.length c5)] ∧ CC F Γ1 [row6, row9, row12] w ∧ Gh.le Γ Γ1 ∧ Own (slT ar) Γ1 61 row6 A4 c5 out_3 ∧ aq.ob el Γ1 gl row9 o8 ∧ aa.ob edk0 Γ1 el.2 row12 o11 ∧ True) ?_ ?_
 ·
  refine WC.rs (aV (k:=WR.done (WC.block ?_)))
  refine WC.loopN h (fun (s : (List (List UInt8)) × Bool × aq × aa) σ w => match s with | (out_16, whole_21, o22, o25) => ∃ (Γ14 : Gh), ∃ (A17 : Option Addr), ∃ (c18 : Nat), ∃ (row19 : Rowb), ∃ (row23 : Rowb), ∃ (row26 : Rowb), slots σ [(0, (pq gl)), (3, .slice A17 out_16.length c18), (4, .bool whole_21)] ∧ CC F Γ14 [row19, row23, row26] w ∧ Gh.le Γ Γ14 ∧ Own (slT ar) Γ14 61 row19 A17 c18 out_16 ∧ aq.ob el Γ14 gl row23 o22 ∧ aa.ob edk0 Γ14 el.2 row26 o25 ∧ True) ?_ ?_
  ·
   intro w hw
   have hw := hw.pad
   exact ⟨Γ, none, 0, [], rowl, rowdk0, slK, hw, gR, (Own.nil (slT ar) _ 61), hl, hdk0, trivial⟩
  rintro f28 ⟨out_16, whole_21, o22, o25⟩ σ w h ⟨Γ14, A17, c18, row19, row23, row26, hsl, hw, hl15, ho20, ho24, ho27, -⟩
  refine slV hsl hw [_, _, _] ?_; clear hw hsl
  refine WC.seq (WC.rs (mV (k:=mV (k:=vG1 (h:=fun hg32 => moV) (k:=vG1 (h:=fun hg33 => nlV (hv:=grV hg33)) (k:=vG1 (h:=fun hg34 => q_fl 4 iD rfl (grV hg34)) (k:=?_)))))))
  obtain ⟨hrow_36, ho0_36, ho1_36, ho2_36, ho3_36, ho4_36, ho5_36, ho6_36, -⟩ := id ho24
  refine ufR 1 hrow_36 [_, _, _] ?_
  refine vG1 (h:=fun hg37 => ldV 0 isAgg2 (hx:=grV hg37)) (k:=vG1 (h:=fun hg38 => aI rfl (grV hg38)) (k:=sV pkA (k:=WR.done ?_)))
  refine ciV h (fun hb39 h => ?_) (fun hb39 h => ?_)
  ·
   refine WC.skip (wc_ (WC.block (WC.seq ?_)))
   refine drV ?_
   refine zV moV (k:=zV nlV (k:=zV (q_fl 0 kn) (k:=zV (ldaV 0 [.pointer (some ⟨el.2, 0, none⟩), .string o22.place_name, ii o22.place_gen] isAgg240 sizeOf240) (k:=zV moV (k:=zV nlV (k:=zV (q_fl 0 kn) (k:=zV (q_fl 2 pZ) (k:=?_))))))))
   refine zV (ldV 0 isAgg2) (k:=zV moV (k:=zV nlV (k:=zV (q_fl 4 iD) (k:=zV (ldV 0 isAgg2) (k:=zV cK (k:=?_))))))
   obtain ⟨z40, hz41, h⟩ := bnd h
   refine wc rfl rfl rfl (dU (caV call235) (fun w hw => kJ (Γ := Gh.all w) (gp__0 := el.2) o22.place_name ho0_36 o22.place_gen ho1_36 o22.place_gen ho1_36 (w64 (o22.last + 1)) (dL _) (Sat.all w) hz41)) (zV aoV (k:=?_))
   refine WQ.nil ?_
   change WC _ _ _ _ _ _
   refine WC.rs (mV (k:=sV nlV (k:=sV (q_fl 0 kn) (k:=sV (q_fl 0 gx) (k:=sV (ldV 0 isAgg30) (k:=mV (k:=?_)))))))
   obtain ⟨hk42, h⟩ := ah h
   obtain ⟨z43, hz44, h⟩ := bnd h
   refine ecV [2] (caV call230) (fun w hp => fw ho27 z40 (of_decide_eq_true hk42) hp hz44) ?_
   rintro Γ45 _ _ hl46 ⟨A49, c50, row51, rfl, rfl, hr52, _⟩
   refine cwV 41 [_, _, _, _] (mV (k:=sV exV (k:=sV exV (k:=aV (k:=aV (k:=WR.done (WC.seq ?_)))))))
   refine WC.rs (mV (k:=sV dJ (k:=WR.done ?_)))
   refine ciV h (fun hb53 h => ?_) (fun hb53 h => ?_)
   ·
    refine WC.exit ?_
    intro w hw
    have hw := hw.fold (is := [2]) rfl hrow_36
    exact ⟨out_16, o22, o25, Γ45, A17, c18, row19, row23, row26, h, slK, (hw.on [3, 0, 0]), (hl15.trans hl46), (ho20.mono hl46), (ho24.mono hl46), (ho27.mono hl46), trivial⟩
   refine WC.skip (wc_ (WC.rs (mV (k:=?_))))
   have hc59 := hr52.capz
   refine seR 1 [_, _, _, _] fun Γ55 hl56 hr57 => ?_
   have hs58 := hr52.sl hl56 hr57
   obtain ⟨z60, hz61, h⟩ := bnd h
   refine ecV [] (caV call231) (fun w hp => nk hs58 hc59 hp hz61) ?_
   rintro Γ62 _ _ hl63 ⟨A66, c67, row68, rfl, rfl, hr69, hr70, hr71, _⟩
   refine cwV 48 [_, _, _, _, _] (mV (k:=sV exV (k:=sV exV (k:=sV exV (k:=aV (k:=aV (k:=aV (k:=?_))))))))
   refine WR.done (WC.rs (mV (k:=mV (k:=sV (ai rfl underlying61) (k:=sV dl (k:=aV (k:=WR.done ?_)))))))
   refine WC.rs (mV (k:=sV nlV (k:=sV (q_fl 0 kn) (k:=sV (ldaV 3 [.pointer (some ⟨el.2, 0, none⟩), .string o22.place_name, ii o22.place_gen] isAgg240 sizeOf240) (k:=mV (k:=mV (k:=?_)))))))
   obtain ⟨z72, hz73, h⟩ := bnd h
   refine ecV [1] (caV call133) (fun w hp => eX (gp__0 := el.2) o22.place_name ho0_36 o22.place_gen ho1_36 z40 (of_decide_eq_true hk42) z60.2.1 hr70 (ho27.mono ((hl46.trans hl56).trans hl63)) hp hz73) ?_
   rintro Γ74 _ _ hl75 ⟨row78, rfl, rfl, hr79, _⟩
   refine cwV 62 [_, _, _, _, _] (WR.done (WC.rs (mV (k:=mV (k:=?_)))))
   obtain ⟨hk80, h⟩ := ah h
   refine apV 4 z60.1 tE (ho20.mono (((hl46.trans hl56).trans hl63).trans hl75)) (of_decide_eq_true hk80) (fun w hw => d9 (i := 1) rfl (hr69.mono hl75) hw) ?_
   intro row81 A82 c83 ho84
   refine aV (k:=WR.done (WC.rs (mV (k:=mV (k:=mV (k:=sV nlV (k:=sV (q_fl 4 iD) (k:=?_))))))))
   refine sV (ldV 3 isAgg2) (k:=sV cK (k:=mV (k:=sV nlV (k:=sV (q_fl 4 iD) (k:=stV 3 (ii (w64 (o22.last + 1))) #[.pointer (some ⟨el.2, 0, none⟩), .string o22.place_name, ii o22.place_gen, ii o22.size, ii (w64 (o22.last + 1)), ii o22.tail, ii o22.count, ii o22.bytes] sizeOf2 (k:=sV nlV (k:=sV (q_fl 5 uD) (k:=?_))))))))
   refine stV 3 (ii z60.2.1) #[.pointer (some ⟨el.2, 0, none⟩), .string o22.place_name, ii o22.place_gen, ii o22.size, ii (w64 (o22.last + 1)), ii z60.2.1, ii o22.count, ii o22.bytes] sizeOf3 (k:=WR.done ?_)
   refine WC.region ?_
   refine mV (k:=sV nlV (k:=sV (q_fl 7 pW) (k:=sV (ldV 3 isAgg3) (k:=mV (k:=sV cK (k:=sV nlV (k:=sV (q_fl 7 pW) (k:=?_))))))))
   refine stV 3 (ii (w64 (o22.bytes + z60.2.1))) #[.pointer (some ⟨el.2, 0, none⟩), .string o22.place_name, ii o22.place_gen, ii o22.size, ii (w64 (o22.last + 1)), ii z60.2.1, ii o22.count, ii (w64 (o22.bytes + z60.2.1))] sizeOf3 (k:=?_)
   refine WR.nil ?_
   intro w hw
   obtain ⟨row_85, hrow_85, hob_85⟩ : ∃ rw : Rowb, rw = ([[(gl, .cells #[.pointer (some ⟨el.2, 0, none⟩), .string o22.place_name, ii o22.place_gen, ii o22.size, ii (w64 (o22.last + 1)), ii z60.2.1, ii o22.count, ii (w64 (o22.bytes + z60.2.1))] el.1 (0, 0))]] : List Rowb).flatten ∧ aq.ob el Γ74 gl rw (⟨o22.place_name, o22.place_gen, o22.size, (w64 (o22.last + 1)), z60.2.1, o22.count, (w64 (o22.bytes + z60.2.1))⟩ : aq) := ⟨_, rfl, rfl, ho0_36, ho1_36, ho2_36, (dL _), hr70, ho5_36, (dL _), trivial⟩
   have hw := hw.fold (is := [3]) rfl hrow_85
   exact ⟨((out_16 ++ z60.1), (z60.2.1 == (z43.1.length : Int)), (⟨o22.place_name, o22.place_gen, o22.size, (w64 (o22.last + 1)), z60.2.1, o22.count, (w64 (o22.bytes + z60.2.1))⟩ : aq), z72), h, Γ74, A82, c83, row81, row_85, row78, slK, (hw.on [4, 0, 0]), ((((hl15.trans hl46).trans hl56).trans hl63).trans hl75), ho84, hob_85, hr79, trivial⟩
  refine WC.exit ?_
  intro w hw
  have hw := hw.fold (is := [0]) rfl hrow_36
  exact ⟨out_16, o22, o25, Γ14, A17, c18, row19, row23, row26, h, slK, (hw.on [1, 0, 0]), hl15, ho20, ho24, ho27, trivial⟩
 rintro σ w ⟨out_3, o8, o11, Γ1, A4, c5, row6, row9, row12, h, hsl, hw, hl2, ho7, ho10, ho13, -⟩
 refine slV hsl hw [_, _, _] ?_; clear hw hsl
 refine WC.rs (mV (k:=mV (k:=sV (ai rfl underlying69) (k:=sV nlV (k:=sV (q_fl 6 uJ) (k:=?_))))))
 obtain ⟨hrow_87, ho0_87, ho1_87, ho2_87, ho3_87, ho4_87, ho5_87, ho6_87, -⟩ := id ho10
 refine ufR 1 hrow_87 [_, _, _] ?_
 refine stV 0 (ii (out_3.length : Int)) #[.pointer (some ⟨el.2, 0, none⟩), .string o8.place_name, ii o8.place_gen, ii o8.size, ii o8.last, ii o8.tail, ii (out_3.length : Int), ii o8.bytes] sizeOf3 (k:=WR.done (WC.rs (mV (k:=aV (k:=WR.done ?_)))))
 refine WC.ret ?_
 intro w hw
 obtain ⟨row_88, hrow_88, hob_88⟩ : ∃ rw : Rowb, rw = ([[(gl, .cells #[.pointer (some ⟨el.2, 0, none⟩), .string o8.place_name, ii o8.place_gen, ii o8.size, ii o8.last, ii o8.tail, ii (out_3.length : Int), ii o8.bytes] el.1 (0, 0))]] : List Rowb).flatten ∧ aq.ob el Γ1 gl rw (⟨o8.place_name, o8.place_gen, o8.size, o8.last, o8.tail, (out_3.length : Int), o8.bytes⟩ : aq) := ⟨_, rfl, rfl, ho0_87, ho1_87, ho2_87, ho3_87, ho4_87, (uC ho7.le), ho6_87, trivial⟩
 have hw := hw.fold (is := [0]) rfl hrow_88
 obtain rfl := Option.some.inj h
 subst hF
 exact bO (is := [0, 1, 0]) (by kernel_rfl) hw rfl ⟨row_88, row12, A4, c5, row6, rfl, rfl, hob_88, ho13, ho7, trivial⟩
abbrev nS (gb0 : Nat) (gb0v : Nat) (eb0v : Nat × Nat) (b0v : aq) (rowb0v : Rowb) (r : Bool) (U : List Rowb) (Γ : Gh) (v : Value) : Prop := v = .bool r ∧ U = [[(gb0, .cells #[.pointer (some ⟨gb0v, 0, none⟩)] 147 (0, 0))], rowb0v] ∧ True
theorem nT (a0 : Int) (ha0 : I64 a0) (n : Int) (hn : I64 n) {gb0 : Nat} {gb0v : Nat} {eb0v : Nat × Nat} {rowb0v : Rowb} {b0v : aq} (hb0v : aq.ob eb0v Γ gb0v rowb0v b0v) (hp : Pre [[(gb0, .cells #[(pq gb0v)] 147 (0, 0))], rowb0v] Γ w0) {r : Bool} (h : fY a0 n b0v = some r) : Calls Tryz.prog 138 #[ii a0, ii n, (pq gb0)] w0 (Outc Γ [[(gb0, .cells #[(pq gb0v)] 147 (0, 0))], rowb0v] w0 (nS gb0 gb0v eb0v b0v rowb0v r)) := by
 refine goV [5] func138 ntmps138 results138 hp fun F hF => ?_
 refine WC.rs (aV (k:=WR.done (WC.rs (mV (k:=sV (ldV 0 isAgg147) (k:=sV nlV (k:=sV (q_fl 4 iD) (k:=?_))))))))
 obtain ⟨hrow_1, ho0_1, ho1_1, ho2_1, ho3_1, ho4_1, ho5_1, ho6_1, -⟩ := id hb0v
 refine ufR 1 hrow_1 [_, _] ?_
 refine sV (ldV 0 isAgg2) (k:=sV bJ (k:=aV (k:=WR.done ?_)))
 refine WC.ret ?_
 intro w hw
 have hw := hw.fold (is := [0]) rfl hrow_1
 exact re_ r [1, 0] h hF hw ⟨rfl, rfl, trivial⟩
abbrev mP (gd : Nat) (ed : Nat) (r : aa) (U : List Rowb) (Γ : Gh) (v : Value) : Prop := ∃ (rowd' : Rowb), v = .tuple #[] ∧ U = [rowd'] ∧ aa.ob ed Γ gd rowd' r ∧ True
theorem mZ {gd ed : Nat} {rowd : Rowb} {d : aa} (hd : aa.ob ed Γ gd rowd d) (hp : Pre [rowd] Γ w0) {r : aa} (h : iG d = some r) : Calls Tryz.prog 139 #[(pq gd)] w0 (Outc Γ [rowd] w0 (mP gd ed r)) := by
 refine goV [] func139 ntmps139 results139 hp fun F hF => ?_
 refine WC.rs (mV (k:=mV (k:=sV nlV (k:=sV (q_fl 2 gD) (k:=?_)))))
 obtain ⟨m1_1, r1_1, m2_1, r2_1, A3_1, c3_1, r3_1, hrow_1, ho0_1, ho1_1, ho2_1, ho3_1, -⟩ := id hd
 refine ufR 0 hrow_1 [_, _, _, _] ?_
 refine sV (ldV 0 isAgg102) (k:=?_)
 refine xH xc (i := 2) rfl ho2_1 rfl rfl (caV call236) ?_
 intro g2 row3 hm4
 refine cwV 7 [_, _, _, _, _] (sV nlV (k:=sV (q_fl 1 vw) (k:=stV 1 (.map (some g2)) #[ii d.room, .map (some g2), .map (some m2_1), .slice A3_1 d.loose.length c3_1] sizeOf102 (k:=WR.done ?_))))
 refine WC.region ?_
 refine mV (k:=sV nlV (k:=sV (q_fl 3 j0) (k:=stV 1 (.slice none 0 0) #[ii d.room, .map (some g2), .map (some m2_1), .slice none 0 0] sizeOf103 (k:=?_))))
 refine WR.nil ?_
 intro w hw
 have hw := hw.pad
 obtain ⟨row_5, hrow_5, hob_5⟩ : ∃ rw : Rowb, rw = ([[(gd, .cells #[ii d.room, .map (some g2), .map (some m2_1), .slice none 0 0] ed (0, 0))], row3, r2_1, []] : List Rowb).flatten ∧ aa.ob ed Γ gd rw (⟨d.room, d.seen, d.seen, []⟩ : aa) := ⟨_, rfl, g2, row3, m2_1, r2_1, none, 0, [], rfl, ho0_1, hm4, ho2_1, (Own.nil fG Γ 461), trivial⟩
 have hw := hw.fold (is := [2, 1, 2, 0]) rfl hrow_5
 obtain rfl := Option.some.inj h
 subst hF
 exact bO (is := [0]) (by kernel_rfl) hw rfl ⟨row_5, rfl, rfl, hob_5, trivial⟩
abbrev pB (gd : Nat) (ed : Nat) (r : aa × (Option aq) × (List (List UInt8)) × Int) (U : List Rowb) (Γ : Gh) (v : Value) : Prop := ∃ (rowd' : Rowb), ∃ (g0 : Nat), ∃ (row0 : Rowb), ∃ (A1 : Option Addr), ∃ (c1 : Nat), ∃ (row1 : Rowb), v = .tuple #[optp r.2.1 g0, .slice A1 r.2.2.1.length c1, .int .i64 r.2.2.2] ∧ U = [rowd', row0, row1] ∧ aa.ob ed Γ gd rowd' r.1 ∧ qd (aq.ob (249, gd) Γ g0) row0 r.2.1 ∧ Own (slT ar) Γ 61 row1 A1 c1 r.2.2.1 ∧ I64 r.2.2.2 ∧ True
theorem pA {gd ed : Nat} {rowd : Rowb} {d : aa} (hd : aa.ob ed Γ gd rowd d) (name : ByteArray) (hname : name.size ≤ lim) (size : Int) (hsize : I64 size) (hp : Pre [rowd] Γ w0) {r : aa × (Option aq) × (List (List UInt8)) × Int} (h : kT d name size = some r) : Calls Tryz.prog 68 #[(pq gd), .string name, ii size] w0 (Outc Γ [rowd] w0 (pB gd ed r)) := by
 refine goV [6, 7, 8] func68 ntmps68 results68 hp fun F hF => ?_
 refine WC.rs (aV (k:=aV (k:=aV (k:=WR.done (WC.seq (WC.rs (mV (k:=?_))))))))
 refine sV (aQ rfl underlying9) (k:=sV aI (k:=mV (k:=vG0 (h:=fun hg1 => moV) (k:=vG0 (h:=fun hg2 => aQ rfl underlying9 (grV hg2)) (k:=vG0 (h:=fun hg3 => bJ rfl (grV hg3)) (k:=sV pkO (k:=mV (k:=?_))))))))
 refine vG0 (h:=fun hg4 => moV) (k:=?_)
 obtain ⟨z6, hz7, h⟩ := bnd h
 refine vC0 (h:=fun hg5 => dU (ew call130 rfl rfl (u7 (grV hg5) rfl)) (fun w hw => ld (Γ := Gh.all w) name hname (Sat.all w) (nv hz7 hg5))) (k:=sV pkO (k:=WR.done ?_))
 refine ciV h (fun hb8 h => ?_) (fun hb8 h => ?_)
 ·
  refine WC.rs (aV (k:=aV (k:=aV (k:=WR.done ?_))))
  refine WC.ret ?_
  intro w hw
  have hw := hw.pad
  have hw := hw.pad
  exact re_ r [2, 1, 0] h hF hw ⟨rowd, 0, [], none, 0, [], rfl, rfl, hd, rfl, (Own.nil (slT ar) _ 61), iV, trivial⟩
 refine WC.skip (wc_ (WC.rs (mV (k:=mV (k:=sV (bh (v := .agg #[(pq gd), .string name, ii 0]) rfl (jB rfl rfl) (fun w => by kernel_rfl)) (k:=?_))))))
 refine alV zeroValue240 fun g9 => ?_
 refine stV 0 (.agg #[(pq gd), .string name, ii 0]) #[(pq gd), .string name, ii 0] sizeOf240 (k:=WR.done (WC.rs (sV (ldaV 0 [(pq gd), .string name, ii 0] isAgg240 sizeOf240) (k:=?_))))
 obtain ⟨z10, hz11, h⟩ := bnd h
 refine ecV [1] (caV call131) (fun w hp => t_seglog_place_holds (gp__0 := gd) name hname 0 iV hd hp hz11) ?_
 rintro Γ12 _ _ hl13 ⟨rfl, rfl, hr16, hr17, hr18, _⟩
 refine cwV 33 [_, _] (mV (k:=sV exV (k:=sV exV (k:=sV exV (k:=?_)))))
 refine alV zeroValue2 fun g19 => ?_
 refine stV 0 (ii z10.1) #[ii z10.1] sizeOf2 (k:=aV (k:=aV (k:=WR.done (WC.seq (WC.rs (mV (k:=sV ci (k:=?_))))))))
 refine WR.done ?_
 refine ciV h (fun hb20 h => ?_) (fun hb20 h => ?_)
 ·
  refine WC.rs (mV (k:=aV (k:=aV (k:=aV (k:=WR.done ?_)))))
  refine WC.ret ?_
  intro w hw
  have hw := hw.pad
  have hw := hw.pad
  exact re_ r [3, 1, 0] h hF hw ⟨rowd, 0, [], none, 0, [], rfl, rfl, (hd.mono hl13), rfl, (Own.nil (slT ar) _ 61), hr18, trivial⟩
 refine WC.skip (wc_ (WC.rs (sV (ldV 0 isAgg2) (k:=sV (q_fl 2 pZ) (k:=stV 2 (ii z10.1) #[(pq gd), .string name, ii z10.1] sizeOf2 (k:=WR.done (WC.rs ?_)))))))
 refine mV (k:=?_)
 obtain ⟨z21, hz22, h⟩ := bnd h
 refine vqV (caV call132) (fun w hw => ie (Γ := Gh.all w) ((hd.mono hl13).mono hw.sat.le_all) (hw.ra 1 rfl) (Sat.all w) hz22) (k:=aV (k:=WR.done (WC.seq ?_)))
 refine leV fun h023 => ?_
 refine dM (CC F Γ12 [[(g19, .cells #[ii z10.1] 2 (0, 0))], [(g9, .cells #[(pq gd), .string name, ii z10.1] 240 (0, 0))]]) (bo_ [0, 1] gR h023) fun k => ?_
 change WH _ _ _ _ (CC F Γ12 [_, _, _]) _ 5 _ _
 refine hV 0 k (q:=ldaV 1 [(pq gd), .string name, ii z10.1] isAgg240 sizeOf240) (k:=hV 1 k (q:=ldaV 1 [(pq gd), .string name, ii z10.1] isAgg240 sizeOf240) (k:=hV 3 k (q:=moV) (k:=wl_ 2 rfl ?_)))
 obtain ⟨z24, hz25, h⟩ := bnd h
 refine vqV (caV call134) (fun w hw => gg (Γ := Gh.all w) (gp__0 := gd) name hname z10.1 hr16 (Sat.all w) hz25) (k:=?_)
 refine WR.nil (nxV (bo_ [0, 1] gR h023) fun k => ?_)
 refine wl_ 4 rfl ?_
 obtain ⟨hk26, h⟩ := ah h
 obtain ⟨z27, hz28, h⟩ := bnd h
 refine ecV [1] (caV call133) (fun w hp => eX (gp__0 := gd) name hname z10.1 hr16 z24 (of_decide_eq_true hk26) z10.2.1 hr17 (hd.mono hl13) hp hz28) ?_
 rintro Γ29 _ _ hl30 ⟨row33, rfl, rfl, hr34, _⟩
 refine cwV 48 [_, _, _] ?_
 refine WR.nil (nxV (bo_ [1, 1] hl30 h023) fun k => ?_)
 refine WH.done (by kernel_rfl) ?_
 change WC _ _ _ _ _ _
 refine WC.rs (sV (ldaV 2 [(pq gd), .string name, ii z10.1] isAgg240 sizeOf240) (k:=sV (jG (v := .func (.func 136) #[] #[(pq g19)]) rfl (by kernel_rfl)) (k:=?_)))
 obtain ⟨rowT35, hT36⟩ : ∃ r : Rowb, r = ([[(g19, .cells #[ii z10.1] 2 (0, 0))]] : List Rowb).flatten := ⟨_, rfl⟩
 refine WR.sub (fun w hw => hw.fold (is := [1]) rfl hT36) ?_
 obtain ⟨z37, hz38, h⟩ := bnd h
 refine ecV [1, 0] (caV call135) (fun w hp => fl (caps := #[(pq g19)]) hr34 name hname z10.1 hr16 (fun x y => fX x y z10.1) (fun {Γq_ wq_} x hx y hy hle hp2 {_} hq => Calls.mono (nG (Γ := Γq_) x hx y hy z10.1 hr16 (by subst hT36; exact hp2.parts) hq) (fun e w2 ho => Outc.quiet (by subst hT36; exact hp2.parts) ho (fun _ _ _ hr => ⟨hr.1, hr.2.1⟩))) call136 hp hz38) ?_
 rintro Γ39 _ _ hl40 ⟨row43, rfl, rfl, hd44⟩
 refine cwV 51 [_, _, _] ?_
 refine WR.sub (fun w hw => hw.unfold (i := 1) rfl hT36) ?_
 change WR _ _ _ (CC F Γ39 [_, _, _]) _ _ _
 refine WR.done (WC.rs (sV (ldaV 2 [(pq gd), .string name, ii z10.1] isAgg240 sizeOf240) (k:=mV (k:=sV tF (k:=sV (bh (v := .agg #[(pq gd), .string name, ii z10.1, ii (max size 16), ii 0, ii 0, ii 0, ii 0]) rfl (jB rfl rfl) (fun w => by kernel_rfl)) (k:=?_))))))
 refine bxV (v := .agg #[(pq gd), .string name, ii z10.1, ii (max size 16), ii 0, ii 0, ii 0, ii 0]) fun g45 => ?_
 refine alV zeroValue147 fun g46 => ?_
 refine stV 0 ((pq g45)) #[(pq g45)] sizeOf147 (k:=WR.done (WC.rs (sV (ldV 0 isAgg147) (k:=?_))))
 obtain ⟨row_47, hrow_47, hob_47⟩ : ∃ rw : Rowb, rw = ([[(g45, .cells #[(pq gd), .string name, ii z10.1, ii (max size 16), ii 0, ii 0, ii 0, ii 0] 249 (0, 0))]] : List Rowb).flatten ∧ aq.ob (249, gd) Γ39 g45 rw (⟨name, z10.1, (max size 16), 0, 0, 0, 0⟩ : aq) := ⟨_, rfl, rfl, hname, hr16, (wO hsize iV), iV, iV, iV, iV, trivial⟩
 refine foR [1] hrow_47 [_, _, _, _, _] ?_
 obtain ⟨z48, hz49, h⟩ := bnd h
 refine ecV [0, 2] (caV call137) (fun w hp => mw hob_47 hd44 hp hz49) ?_
 rintro Γ50 _ _ hl51 ⟨row54, row56, A58, c59, row60, rfl, rfl, hr55, hr57, hr61, _⟩
 refine cwV 58 [_, _, _, _, _, _] (aV (k:=WR.done (WC.rs (sV (ldaV 5 [(pq gd), .string name, ii z10.1] isAgg240 sizeOf240) (k:=sV (jG (v := .func (.func 138) #[] #[(pq g46)]) rfl (by kernel_rfl)) (k:=?_))))))
 obtain ⟨rowT62, hT63⟩ : ∃ r : Rowb, r = ([[(g46, .cells #[(pq g45)] 147 (0, 0))], row54] : List Rowb).flatten := ⟨_, rfl⟩
 refine WR.sub (fun w hw => hw.fold (is := [3, 0]) rfl hT63) ?_
 obtain ⟨z64, hz65, h⟩ := bnd h
 refine ecV [1, 0] (caV call135) (fun w hp => fl (caps := #[(pq g46)]) hr57 name hname z10.1 hr16 (fun x y => fY x y z48.1) (fun {Γq_ wq_} x hx y hy hle hp2 {_} hq => Calls.mono (nT (Γ := Γq_) x hx y hy (hr55.mono hle) (by subst hT63; exact hp2.parts) hq) (fun e w2 ho => Outc.quiet (by subst hT63; exact hp2.parts) ho (fun _ _ _ hr => ⟨hr.1, hr.2.1⟩))) call138 hp hz65) ?_
 rintro Γ66 _ _ hl67 ⟨row70, rfl, rfl, hd71⟩
 refine cwV 61 [_, _, _, _, _] ?_
 refine WR.sub (fun w hw => hw.unfold (i := 1) rfl hT63) ?_
 change WR _ _ _ (CC F Γ66 [_, _, _, _, _, _]) _ _ _
 refine WR.done ?_
 refine WC.cut (fun σ w => ∃ (o74 : aa), ∃ (Γ72 : Gh), ∃ (row75 : Rowb), fo z48 o74 = some r ∧ slots σ [(14, (pq g46)), (15, .slice A58 z48.2.2.length c59)] ∧ CC F Γ72 [[(g46, .cells #[(pq g45)] 147 (0, 0))], row54, row75, row60] w ∧ Gh.le Γ66 Γ72 ∧ aa.ob ed Γ72 gd row75 o74 ∧ True) ?_ ?_
 ·
  refine WC.rs (mV (k:=?_))
  obtain ⟨z77, hz78, h⟩ := bnd h
  refine vqV (caV call132) (fun w hw => ie (Γ := Gh.all w) (hd71.mono hw.sat.le_all) (hw.ra 2 rfl) (Sat.all w) hz78) (k:=mV (k:=sV ci (k:=WR.done ?_)))
  refine ciV h (fun hb79 h => ?_) (fun hb79 h => ?_)
  ·
   refine WC.region ?_
   refine mV (k:=?_)
   obtain ⟨z80, hz81, h⟩ := bnd h
   refine ecV [2] (caV call139) (fun w hp => mZ hd71 hp hz81) ?_
   rintro Γ82 _ _ hl83 ⟨row86, rfl, rfl, hr87, _⟩
   refine cwV 67 [_, _, _, _, _, _] ?_
   refine WR.nil ?_
   intro w hw
   exact ⟨z80, Γ82, row86, h, slK, (hw.on [1, 1, 0, 0]), hl83, hr87, trivial⟩
  refine WC.skip ?_
  intro w hw
  exact ⟨z64, Γ66, row70, h, slK, (hw.on [0, 0, 0, 0]), gR, hd71, trivial⟩
 rintro σ w ⟨o74, Γ72, row75, h, hsl, hw, hl73, ho76, -⟩
 refine slV hsl hw [_, _, _, _] ?_; clear hw hsl
 refine WC.rs (sV (ldV 0 isAgg147) (k:=mV (k:=aV (k:=aV (k:=aV (k:=WR.done ?_))))))
 exact WC.ret fun w hw => re_ r [2, 1, 1] h hF hw ⟨row75, g45, row54, A58, c59, row60, rfl, rfl, ho76, (hr55.mono (hl67.trans hl73)), (hr61.mono (hl67.trans hl73)), iV, trivial⟩
abbrev qS (gd : Nat) (ed : Nat) (r : aa × (Option ay) × Int) (U : List Rowb) (Γ : Gh) (v : Value) : Prop := ∃ (rowd' : Rowb), ∃ (g0 : Nat), ∃ (row0 : Rowb), v = .tuple #[optp r.2.1 g0, .int .i64 r.2.2] ∧ U = [rowd', row0] ∧ aa.ob ed Γ gd rowd' r.1 ∧ qd (ay.ob (154, gd) Γ g0) row0 r.2.1 ∧ I64 r.2.2 ∧ True
theorem m8 {gd ed : Nat} {rowd : Rowb} {d : aa} (hd : aa.ob ed Γ gd rowd d) (size : Int) (hsize : I64 size) {Ac_2 : Option Addr} {cc_2 : Nat} {Ac_5 : Option Addr} {cc_5 : Nat} (c_ : aD) (hc_ : aD.fits Γ Ac_2 cc_2 Ac_5 cc_5 c_) (hp : Pre [rowd] Γ w0) {r : aa × (Option ay) × Int} (h : lw d size c_ = some r) : Calls Tryz.prog 30 #[(pq gd), ii size, .agg (aD.cs Ac_2 cc_2 Ac_5 cc_5 c_).toArray] w0 (Outc Γ [rowd] w0 (qS gd ed r)) := by
 refine goV [6, 7] func30 ntmps30 results30 hp fun F hF => ?_
 refine WC.rs ?_
 refine bxV (v := .agg (aD.cs Ac_2 cc_2 Ac_5 cc_5 c_).toArray) fun g1 => ?_
 refine aV (k:=aV (k:=WR.done (WC.seq (WC.rs (sV (ldaV 0 (aD.cs Ac_2 cc_2 Ac_5 cc_5 c_) isAgg100 sizeOf100) (k:=?_))))))
 obtain ⟨z2, hz3, h⟩ := bnd h
 refine vqV (caV call67) (fun w hw => ln (Γ := Gh.all w) c_ (aD.fits_mono hc_ hw.sat.le_all) (Sat.all w) hz3) (k:=sV dJ (k:=WR.done ?_))
 refine ciV h (fun hb4 h => ?_) (fun hb4 h => ?_)
 ·
  refine WC.rs (aV (k:=aV (k:=WR.done ?_)))
  refine WC.ret ?_
  intro w hw
  have hw := hw.pad
  exact re_ r [2, 0] h hF hw ⟨rowd, 0, [], rfl, rfl, hd, rfl, iV, trivial⟩
 refine WC.skip (wc_ (WC.rs (mV (k:=mV (k:=?_)))))
 obtain ⟨z5, hz6, h⟩ := bnd h
 refine ecV [1] (caV call68) (fun w hp => pA hd (⟨#[103]⟩ : ByteArray) (show (⟨#[103]⟩ : ByteArray).size ≤ lim by decide) size hsize hp hz6) ?_
 rintro Γ7 _ _ hl8 ⟨row11, g13, row14, A16, c17, row18, rfl, rfl, hr12, hr15, hr19, hr20, _⟩
 refine cwV 22 [_, _, _, _] (mV (k:=sV exV (k:=sV exV (k:=sV exV (k:=aU (v := optp z5.2.1 g13) (k:=aV (k:=aV (k:=?_))))))))
 refine WR.done (WC.seq (WC.rs (mV (k:=sV ci (k:=WR.done ?_)))))
 refine ciV h (fun hb21 h => ?_) (fun hb21 h => ?_)
 ·
  refine WC.rs (mV (k:=aV (k:=aV (k:=WR.done ?_))))
  refine WC.ret ?_
  intro w hw
  have hw := hw.pad
  exact re_ r [1, 0] h hF hw ⟨row11, 0, [], rfl, rfl, hr12, rfl, hr20, trivial⟩
 refine WC.skip (wc_ (WC.rs (sV (q_fl 2 ki) (k:=sV (ldV 3 isAgg23) (k:=?_)))))
 obtain ⟨z22, hz23, h⟩ := bnd h
 refine ecV [] (caV call27) (fun w hp => bn (hc_.2.2.1.2.mono hl8) hc_.2.2.1.1 hp hz23) ?_
 rintro Γ24 _ _ hl25 ⟨A28, c29, row30, rfl, rfl, hr31, _⟩
 refine cwV 31 [_, _, _, _, _] (sV (q_fl 2 ki) (k:=stV 4 (.slice A28 z22.length c29) #[ii c_.self, ii c_.sites, .slice A28 z22.length c29, ii c_.cap, ii c_.base, .slice Ac_5 c_.members.length cc_5] sizeOf23 (k:=WR.done (WC.seq ?_))))
 obtain ⟨z32, hz33, h⟩ := bnd h
 have ho34 := jn (td hr15 (fun _ h => h.mono hl25)) hz33
 refine leV fun h035 => ?_
 refine dM (CC F Γ24 [row18, [(g1, .cells #[ii c_.self, ii c_.sites, .slice A28 z22.length c29, ii c_.cap, ii c_.base, .slice Ac_5 c_.members.length cc_5] 100 (0, 0))]]) (bo_ [3, 3] gR h035) fun k => ?_
 change WH _ _ _ _ (CC F Γ24 [_, _, _, _, _]) _ 9 _ _
 refine hV 0 k (q:=ldaV 1 [ii c_.self, ii c_.sites, .slice A28 z22.length c29, ii c_.cap, ii c_.base, .slice Ac_5 c_.members.length cc_5] isAgg100 sizeOf100) (k:=hV 1 k (q:=cI (v := (pq g13)) rfl (ft rfl hz33)) (k:=hV 3 k (q:=q_fl 5 pP) (k:=hV 4 k (q:=ldV 1 isAgg23) (k:=?_))))
 obtain ⟨z36, hz37, h⟩ := bnd h
 refine WH.each (l := [2, 5]) (by kernel_rfl) (by simp) ?_
 intro i hi; simp only [List.mem_cons, List.not_mem_nil, or_false] at hi
 rcases hi with rfl | rfl
 ·
  refine ⟨_, rfl, ?_⟩
  refine gC (intK underlying3) pQ.v rfl rfl rfl rfl ?_
  intro g38 row39 hm40
  refine WR.nil (nxV (bo_ [4, 4] gR h035) fun k => ?_)
  refine wl_ 5 rfl ?_
  refine ecV [] (caV call27) (fun w hp => bn (hc_.2.2.2.2.2.2.mono (hl8.trans hl25)) hc_.2.2.2.2.2.1 hp hz37) ?_
  rintro Γ41 _ _ hl42 ⟨A45, c46, row47, rfl, rfl, hr48, _⟩
  refine cwV 38 [_, _, _, _, _, _, _] ?_
  refine WR.nil (nxV (bo_ [5, 5] hl42 h035) fun k => ?_)
  refine hV 6 k (q:=bh (v := .agg #[ii c_.self, ii c_.sites, .slice A28 z22.length c29, ii c_.cap, ii c_.base, .slice Ac_5 c_.members.length cc_5, (pq g13), .slice none 0 0, .pointer none, .slice none 0 0, ii 1, .map (some g38), .slice A45 z36.length c46]) rfl (ri rfl rfl rfl rfl rfl) (fun w => by kernel_rfl)) (k:=wl_ 7 rfl ?_)
  refine bxV (v := .agg #[ii c_.self, ii c_.sites, .slice A28 z22.length c29, ii c_.cap, ii c_.base, .slice Ac_5 c_.members.length cc_5, (pq g13), .slice none 0 0, .pointer none, .slice none 0 0, ii 1, .map (some g38), .slice A45 z36.length c46]) fun gh40_ => ?_
  refine WR.nil (nxV (bo_ [6, 6] hl42 h035) fun k => ?_)
  refine hV 8 k (q:=aoV) (k:=?_)
  refine WH.done (by kernel_rfl) ?_
  change WC _ _ _ _ _ _
  refine WC.seq (WC.rs (sV (q_fl 1 gA) (k:=sV (ldV 7 isAgg3) (k:=mV (k:=WR.done (WC.block ?_))))))
  refine WC.forU h (fun (i55 : Nat) (x49 : List Int) σ w => ∃ (A50 : Option Addr), ∃ (c51 : Nat), ∃ (row52 : Rowb), slots σ [(5, (pq g1)), (9, .slice A16 z5.2.2.1.length c17), (11, (pq gh40_)), (42, ii c_.sites), (43, ii (i55 : Int))] ∧ CC F Γ41 [row52, [(gh40_, .cells #[ii c_.self, ii c_.sites, .slice A28 z22.length c29, ii c_.cap, ii c_.base, .slice Ac_5 c_.members.length cc_5, (pq g13), .slice A50 x49.length c51, .pointer none, .slice none 0 0, ii 1, .map (some g38), .slice A45 z36.length c46] 154 (0, 0))], row47, row39, row30, row11, row14, row18, [(g1, .cells #[ii c_.self, ii c_.sites, .slice A28 z22.length c29, ii c_.cap, ii c_.base, .slice Ac_5 c_.members.length cc_5] 100 (0, 0))]] w ∧ Own intT Γ41 2 row52 A50 c51 x49 ∧ True) ?_ ?_
  ·
   intro w hw
   have hw := hw.pad
   exact ⟨none, 0, [], slK, hw, (Own.nil intT _ 2), trivial⟩
  rintro f54 i55 x49 σ w hi56 hlt57 hge58 ⟨A50, c51, row52, hsl, hw, ho53, -⟩
  refine slV hsl hw [_, _, _, _, _, _, _, _, _] ?_; clear hw hsl
  refine WC.rs (sV aI (k:=WR.done (WC.seq ?_)))
  refine coV (fun hb59 => ?_) (fun hb59 => ?_)
  ·
   have hl60 := ilti hb59
   have h := hlt57 hl60
   refine WC.skip (wc_ (WC.seq (WC.block ?_)))
   refine leV fun h061 => ?_
   refine dM (CC F Γ41 [row18, [(g1, .cells #[ii c_.self, ii c_.sites, .slice A28 z22.length c29, ii c_.cap, ii c_.base, .slice Ac_5 c_.members.length cc_5] 100 (0, 0))]]) (bo_ [7, 7] gR h061) fun k => ?_
   change WH _ _ _ _ (CC F Γ41 [_, _, _, _, _, _, _, _, _]) _ 12 _ _
   refine hV 0 k (q:=moV) (k:=hV 1 k (q:=moV) (k:=hV 2 k (q:=nlV) (k:=hV 3 k (q:=q_fl 7 fp) (k:=hV 5 k (q:=q_fl 4 kj) (k:=hV 6 k (q:=ldV 1 isAgg2) (k:=?_))))))
   refine WH.each (l := [4, 7]) (by kernel_rfl) (by simp) ?_
   intro i hi; simp only [List.mem_cons, List.not_mem_nil, or_false] at hi
   rcases hi with rfl | rfl
   ·
    refine ⟨_, rfl, ?_⟩
    refine sV (ldV 1 isAgg44) (k:=?_)
    refine WR.nil (nxV (bo_ [7, 7] gR h061) fun k => ?_)
    refine wl_ 7 rfl ?_
    refine bsV #[ii c_.base] 2 fun g62 => ?_
    refine WR.nil (nxV (bo_ [8, 8] gR h061) fun k => ?_)
    refine wl_ 8 rfl ?_
    obtain ⟨hk63, h⟩ := ah h
    refine apV 1 [c_.base] ma ho53 (of_decide_eq_true hk63) (fun w hw => bw (i := 0) rfl (by exact ⟨rfl, hc_.2.2.2.2.1⟩) hw) ?_
    intro row64 A65 c66 ho67
    refine WR.nil (nxV (bo_ [8, 8] gR h061) fun k => ?_)
    refine hV 9 k (q:=nlV) (k:=hV 10 k (q:=q_fl 7 fp) (k:=wl_ 11 rfl (stV 2 (.slice A65 (x49 ++ [c_.base]).length c66) #[ii c_.self, ii c_.sites, .slice A28 z22.length c29, ii c_.cap, ii c_.base, .slice Ac_5 c_.members.length cc_5, (pq g13), .slice A65 (x49 ++ [c_.base]).length c66, .pointer none, .slice none 0 0, ii 1, .map (some g38), .slice A45 z36.length c46] sizeOf44 (k:=?_))))
    refine WR.nil (nxV (bo_ [8, 8] gR h061) fun k => ?_)
    refine WH.done (by kernel_rfl) ?_
    change WC _ _ _ _ _ _
    refine WC.region ?_
    refine sV (aK rfl rfl rfl (m5 hl60 hc_.2.1)) (k:=mV (k:=?_))
    refine WR.nil ?_
    intro w hw
    exact ⟨hl60, (x49 ++ [c_.base]), h, A65, c66, row64, slK, (hw.on [1, 1, 1, 1, 1, 1, 1, 1, 1]), ho67, trivial⟩
   refine ⟨_, rfl, ?_⟩
   refine bsV #[ii c_.base] 2 fun g62 => ?_
   refine WR.nil (nxV (bo_ [8, 8] gR h061) fun k => ?_)
   refine wl_ 4 rfl (sV (ldV 2 isAgg44) (k:=?_))
   refine WR.nil (nxV (bo_ [8, 8] gR h061) fun k => ?_)
   refine wl_ 8 rfl ?_
   obtain ⟨hk63, h⟩ := ah h
   refine apV 1 [c_.base] ma ho53 (of_decide_eq_true hk63) (fun w hw => bw (i := 0) rfl (by exact ⟨rfl, hc_.2.2.2.2.1⟩) hw) ?_
   intro row64 A65 c66 ho67
   refine WR.nil (nxV (bo_ [8, 8] gR h061) fun k => ?_)
   refine hV 9 k (q:=nlV) (k:=hV 10 k (q:=q_fl 7 fp) (k:=wl_ 11 rfl (stV 2 (.slice A65 (x49 ++ [c_.base]).length c66) #[ii c_.self, ii c_.sites, .slice A28 z22.length c29, ii c_.cap, ii c_.base, .slice Ac_5 c_.members.length cc_5, (pq g13), .slice A65 (x49 ++ [c_.base]).length c66, .pointer none, .slice none 0 0, ii 1, .map (some g38), .slice A45 z36.length c46] sizeOf44 (k:=?_))))
   refine WR.nil (nxV (bo_ [8, 8] gR h061) fun k => ?_)
   refine WH.done (by kernel_rfl) ?_
   change WC _ _ _ _ _ _
   refine WC.region ?_
   refine sV (aK rfl rfl rfl (m5 hl60 hc_.2.1)) (k:=mV (k:=?_))
   refine WR.nil ?_
   intro w hw
   exact ⟨hl60, (x49 ++ [c_.base]), h, A65, c66, row64, slK, (hw.on [1, 1, 1, 1, 1, 1, 1, 1, 1]), ho67, trivial⟩
  have h := hge58 (igei hb59)
  refine WC.exit ?_
  change WC _ _ _ _ _ _
  refine WC.seq (WC.rs (mV (k:=sV (ai rfl underlying69) (k:=mV (k:=WR.done (WC.block ?_))))))
  have hc72 := (hr31.mono hl42).capz
  refine seC 4 [_, _, _, _, _, _, _, _, _] fun Γ68 hl69 hr70 => ?_
  have hs71 := (hr31.mono hl42).sl hl69 hr70
  have hc77 := (ho53.mono hl69).capz
  refine seC 0 [_, _, _, _, _, _, _, _, _] fun Γ73 hl74 hr75 => ?_
  have hs76 := (ho53.mono hl69).sl hl74 hr75
  refine WC.mono ?_ (fun w hw => hw.pad)
  have hc82 := (hr48.mono (hl69.trans hl74)).capz
  refine seC 3 [_, _, _, _, _, _, _, _, _, _] fun Γ78 hl79 hr80 => ?_
  have hs81 := (hr48.mono (hl69.trans hl74)).sl hl79 hr80
  obtain ⟨row_83, hrow_83, hob_83⟩ : ∃ rw : Rowb, rw = ([[(gh40_, .cells #[ii c_.self, ii c_.sites, .slice A28 z22.length c29, ii c_.cap, ii c_.base, .slice Ac_5 c_.members.length cc_5, (pq g13), .slice A50 x49.length c51, .pointer none, .slice none 0 0, ii 1, .map (some g38), .slice A45 z36.length c46] 154 (0, 0))], row14, [], row39] : List Rowb).flatten ∧ ay.ob (154, gd) Γ78 gh40_ rw (⟨c_.self, c_.sites, z22, c_.cap, c_.base, c_.members, z32, x49, none, ([] : List fa), 1, ([] : List (Int × Bool)), z36⟩ : ay) := ⟨_, rfl, A28, c29, Ac_5, cc_5, g13, row14, A50, c51, none, none, 0, [], g38, row39, A45, c46, rfl, hc_.1, hc_.2.1, hc72, (hs71.mono (hl74.trans hl79)), hc_.2.2.2.1, hc_.2.2.2.2.1, hc_.2.2.2.2.2.1, (hc_.2.2.2.2.2.2.mono (((((hl8.trans hl25).trans hl42).trans hl69).trans hl74).trans hl79)), (ho34.mono (((hl42.trans hl69).trans hl74).trans hl79)), hc77, (hs76.mono hl79), (Pd.nil _ _), ((LM.nil iv il (intK underlying3) pQ.v Γ73 224).mono hl79), iV, (hm40.mono (((hl42.trans hl69).trans hl74).trans hl79)), hc82, hs81, trivial⟩
  refine foC [2, 6, 0, 2] hrow_83 [_, _, _, _, _, _, _] ?_
  refine WC.loopN h (fun (s : Unit) σ w => match s with | () => slots σ [(11, (pq gh40_)), (57, .slice A16 z5.2.2.1.length c17), (58, ii (z5.2.2.1.length : Int)), (59, ii 0)] ∧ CC F Γ78 [row_83, row11, row18] w ∧ True) ?_ ?_
  ·
   intro w hw
   exact ⟨slK, (hw.on [0, 3, 3]), trivial⟩
  rintro f84 ⟨⟩ σ w h ⟨hsl, hw, -⟩
  refine slV hsl hw [_, _, _] ?_; clear hw hsl
  refine WC.rs (sV aI (k:=WR.done (WC.seq ?_)))
  refine ciV h (fun hb88 h => ?_) (fun hb88 h => ?_)
  ·
   refine WC.skip (wc_ (WC.seq (WC.block (WC.rs ?_))))
   obtain ⟨hk89, h⟩ := ah h
   refine sV (bB (i := 0) underlying69 sizeOf61 rfl rfl rfl (of_decide_eq_true hk89) ((hr19.mono ((((hl25.trans hl42).trans hl69).trans hl74).trans hl79)).some_ (of_decide_eq_true hk89))) (k:=?_)
   obtain ⟨A90, c91, hx92⟩ := (hr19.mono ((((hl25.trans hl42).trans hl69).trans hl74).trans hl79)).slT_at 0
   refine sV (nw (c := 0) (v := .slice A90 (gt z5.2.2.1 0).length c91) (i := 2) rfl (hx92 (of_decide_eq_true hk89)).2 rfl isAgg61 rfl rfl) (k:=aV (k:=WR.done ?_))
   cases h
  refine WC.exit ?_
  change WC _ _ _ _ _ _
  refine WC.rs (mV (k:=aV (k:=aV (k:=WR.done ?_))))
  exact WC.ret fun w hw => re_ r [1, 0] h hF hw ⟨row11, gh40_, row_83, rfl, rfl, (hr12.mono ((((hl25.trans hl42).trans hl69).trans hl74).trans hl79)), hob_83, iV, trivial⟩
 refine ⟨_, rfl, ?_⟩
 refine ecV [] (caV call27) (fun w hp => bn (hc_.2.2.2.2.2.2.mono (hl8.trans hl25)) hc_.2.2.2.2.2.1 hp hz37) ?_
 rintro Γ38 _ _ hl39 ⟨A42, c43, row44, rfl, rfl, hr45, _⟩
 refine cwV 38 [_, _, _, _, _, _] ?_
 refine WR.nil (nxV (bo_ [4, 4] hl39 h035) fun k => ?_)
 refine wl_ 2 rfl ?_
 refine gC (intK underlying3) pQ.v rfl rfl rfl rfl ?_
 intro g46 row47 hm48
 refine WR.nil (nxV (bo_ [5, 5] hl39 h035) fun k => ?_)
 refine hV 6 k (q:=bh (v := .agg #[ii c_.self, ii c_.sites, .slice A28 z22.length c29, ii c_.cap, ii c_.base, .slice Ac_5 c_.members.length cc_5, (pq g13), .slice none 0 0, .pointer none, .slice none 0 0, ii 1, .map (some g46), .slice A42 z36.length c43]) rfl (ri rfl rfl rfl rfl rfl) (fun w => by kernel_rfl)) (k:=wl_ 7 rfl ?_)
 refine bxV (v := .agg #[ii c_.self, ii c_.sites, .slice A28 z22.length c29, ii c_.cap, ii c_.base, .slice Ac_5 c_.members.length cc_5, (pq g13), .slice none 0 0, .pointer none, .slice none 0 0, ii 1, .map (some g46), .slice A42 z36.length c43]) fun gh40_ => ?_
 refine WR.nil (nxV (bo_ [6, 6] hl39 h035) fun k => ?_)
 refine hV 8 k (q:=aoV) (k:=?_)
 refine WH.done (by kernel_rfl) ?_
 change WC _ _ _ _ _ _
 refine WC.seq (WC.rs (sV (q_fl 1 gA) (k:=sV (ldV 7 isAgg3) (k:=mV (k:=WR.done (WC.block ?_))))))
 refine WC.forU h (fun (i55 : Nat) (x49 : List Int) σ w => ∃ (A50 : Option Addr), ∃ (c51 : Nat), ∃ (row52 : Rowb), slots σ [(5, (pq g1)), (9, .slice A16 z5.2.2.1.length c17), (11, (pq gh40_)), (42, ii c_.sites), (43, ii (i55 : Int))] ∧ CC F Γ38 [row52, [(gh40_, .cells #[ii c_.self, ii c_.sites, .slice A28 z22.length c29, ii c_.cap, ii c_.base, .slice Ac_5 c_.members.length cc_5, (pq g13), .slice A50 x49.length c51, .pointer none, .slice none 0 0, ii 1, .map (some g46), .slice A42 z36.length c43] 154 (0, 0))], row47, row44, row30, row11, row14, row18, [(g1, .cells #[ii c_.self, ii c_.sites, .slice A28 z22.length c29, ii c_.cap, ii c_.base, .slice Ac_5 c_.members.length cc_5] 100 (0, 0))]] w ∧ Own intT Γ38 2 row52 A50 c51 x49 ∧ True) ?_ ?_
 ·
  intro w hw
  have hw := hw.pad
  exact ⟨none, 0, [], slK, hw, (Own.nil intT _ 2), trivial⟩
 rintro f54 i55 x49 σ w hi56 hlt57 hge58 ⟨A50, c51, row52, hsl, hw, ho53, -⟩
 refine slV hsl hw [_, _, _, _, _, _, _, _, _] ?_; clear hw hsl
 refine WC.rs (sV aI (k:=WR.done (WC.seq ?_)))
 refine coV (fun hb59 => ?_) (fun hb59 => ?_)
 ·
  have hl60 := ilti hb59
  have h := hlt57 hl60
  refine WC.skip (wc_ (WC.seq (WC.block ?_)))
  refine leV fun h061 => ?_
  refine dM (CC F Γ38 [row18, [(g1, .cells #[ii c_.self, ii c_.sites, .slice A28 z22.length c29, ii c_.cap, ii c_.base, .slice Ac_5 c_.members.length cc_5] 100 (0, 0))]]) (bo_ [7, 7] gR h061) fun k => ?_
  change WH _ _ _ _ (CC F Γ38 [_, _, _, _, _, _, _, _, _]) _ 12 _ _
  refine hV 0 k (q:=moV) (k:=hV 1 k (q:=moV) (k:=hV 2 k (q:=nlV) (k:=hV 3 k (q:=q_fl 7 fp) (k:=hV 5 k (q:=q_fl 4 kj) (k:=hV 6 k (q:=ldV 1 isAgg2) (k:=?_))))))
  refine WH.each (l := [4, 7]) (by kernel_rfl) (by simp) ?_
  intro i hi; simp only [List.mem_cons, List.not_mem_nil, or_false] at hi
  rcases hi with rfl | rfl
  ·
   refine ⟨_, rfl, ?_⟩
   refine sV (ldV 1 isAgg44) (k:=?_)
   refine WR.nil (nxV (bo_ [7, 7] gR h061) fun k => ?_)
   refine wl_ 7 rfl ?_
   refine bsV #[ii c_.base] 2 fun g62 => ?_
   refine WR.nil (nxV (bo_ [8, 8] gR h061) fun k => ?_)
   refine wl_ 8 rfl ?_
   obtain ⟨hk63, h⟩ := ah h
   refine apV 1 [c_.base] ma ho53 (of_decide_eq_true hk63) (fun w hw => bw (i := 0) rfl (by exact ⟨rfl, hc_.2.2.2.2.1⟩) hw) ?_
   intro row64 A65 c66 ho67
   refine WR.nil (nxV (bo_ [8, 8] gR h061) fun k => ?_)
   refine hV 9 k (q:=nlV) (k:=hV 10 k (q:=q_fl 7 fp) (k:=wl_ 11 rfl (stV 2 (.slice A65 (x49 ++ [c_.base]).length c66) #[ii c_.self, ii c_.sites, .slice A28 z22.length c29, ii c_.cap, ii c_.base, .slice Ac_5 c_.members.length cc_5, (pq g13), .slice A65 (x49 ++ [c_.base]).length c66, .pointer none, .slice none 0 0, ii 1, .map (some g46), .slice A42 z36.length c43] sizeOf44 (k:=?_))))
   refine WR.nil (nxV (bo_ [8, 8] gR h061) fun k => ?_)
   refine WH.done (by kernel_rfl) ?_
   change WC _ _ _ _ _ _
   refine WC.region ?_
   refine sV (aK rfl rfl rfl (m5 hl60 hc_.2.1)) (k:=mV (k:=?_))
   refine WR.nil ?_
   intro w hw
   exact ⟨hl60, (x49 ++ [c_.base]), h, A65, c66, row64, slK, (hw.on [1, 1, 1, 1, 1, 1, 1, 1, 1]), ho67, trivial⟩
  refine ⟨_, rfl, ?_⟩
  refine bsV #[ii c_.base] 2 fun g62 => ?_
  refine WR.nil (nxV (bo_ [8, 8] gR h061) fun k => ?_)
  refine wl_ 4 rfl (sV (ldV 2 isAgg44) (k:=?_))
  refine WR.nil (nxV (bo_ [8, 8] gR h061) fun k => ?_)
  refine wl_ 8 rfl ?_
  obtain ⟨hk63, h⟩ := ah h
  refine apV 1 [c_.base] ma ho53 (of_decide_eq_true hk63) (fun w hw => bw (i := 0) rfl (by exact ⟨rfl, hc_.2.2.2.2.1⟩) hw) ?_
  intro row64 A65 c66 ho67
  refine WR.nil (nxV (bo_ [8, 8] gR h061) fun k => ?_)
  refine hV 9 k (q:=nlV) (k:=hV 10 k (q:=q_fl 7 fp) (k:=wl_ 11 rfl (stV 2 (.slice A65 (x49 ++ [c_.base]).length c66) #[ii c_.self, ii c_.sites, .slice A28 z22.length c29, ii c_.cap, ii c_.base, .slice Ac_5 c_.members.length cc_5, (pq g13), .slice A65 (x49 ++ [c_.base]).length c66, .pointer none, .slice none 0 0, ii 1, .map (some g46), .slice A42 z36.length c43] sizeOf44 (k:=?_))))
  refine WR.nil (nxV (bo_ [8, 8] gR h061) fun k => ?_)
  refine WH.done (by kernel_rfl) ?_
  change WC _ _ _ _ _ _
  refine WC.region ?_
  refine sV (aK rfl rfl rfl (m5 hl60 hc_.2.1)) (k:=mV (k:=?_))
  refine WR.nil ?_
  intro w hw
  exact ⟨hl60, (x49 ++ [c_.base]), h, A65, c66, row64, slK, (hw.on [1, 1, 1, 1, 1, 1, 1, 1, 1]), ho67, trivial⟩
 have h := hge58 (igei hb59)
 refine WC.exit ?_
 change WC _ _ _ _ _ _
 refine WC.seq (WC.rs (mV (k:=sV (ai rfl underlying69) (k:=mV (k:=WR.done (WC.block ?_))))))
 have hc72 := (hr31.mono hl39).capz
 refine seC 4 [_, _, _, _, _, _, _, _, _] fun Γ68 hl69 hr70 => ?_
 have hs71 := (hr31.mono hl39).sl hl69 hr70
 have hc77 := (ho53.mono hl69).capz
 refine seC 0 [_, _, _, _, _, _, _, _, _] fun Γ73 hl74 hr75 => ?_
 have hs76 := (ho53.mono hl69).sl hl74 hr75
 refine WC.mono ?_ (fun w hw => hw.pad)
 have hc82 := (hr45.mono (hl69.trans hl74)).capz
 refine seC 4 [_, _, _, _, _, _, _, _, _, _] fun Γ78 hl79 hr80 => ?_
 have hs81 := (hr45.mono (hl69.trans hl74)).sl hl79 hr80
 obtain ⟨row_83, hrow_83, hob_83⟩ : ∃ rw : Rowb, rw = ([[(gh40_, .cells #[ii c_.self, ii c_.sites, .slice A28 z22.length c29, ii c_.cap, ii c_.base, .slice Ac_5 c_.members.length cc_5, (pq g13), .slice A50 x49.length c51, .pointer none, .slice none 0 0, ii 1, .map (some g46), .slice A42 z36.length c43] 154 (0, 0))], row14, [], row47] : List Rowb).flatten ∧ ay.ob (154, gd) Γ78 gh40_ rw (⟨c_.self, c_.sites, z22, c_.cap, c_.base, c_.members, z32, x49, none, ([] : List fa), 1, ([] : List (Int × Bool)), z36⟩ : ay) := ⟨_, rfl, A28, c29, Ac_5, cc_5, g13, row14, A50, c51, none, none, 0, [], g46, row47, A42, c43, rfl, hc_.1, hc_.2.1, hc72, (hs71.mono (hl74.trans hl79)), hc_.2.2.2.1, hc_.2.2.2.2.1, hc_.2.2.2.2.2.1, (hc_.2.2.2.2.2.2.mono (((((hl8.trans hl25).trans hl39).trans hl69).trans hl74).trans hl79)), (ho34.mono (((hl39.trans hl69).trans hl74).trans hl79)), hc77, (hs76.mono hl79), (Pd.nil _ _), ((LM.nil iv il (intK underlying3) pQ.v Γ73 224).mono hl79), iV, (hm48.mono ((hl69.trans hl74).trans hl79)), hc82, hs81, trivial⟩
 refine foC [2, 6, 0, 1] hrow_83 [_, _, _, _, _, _, _] ?_
 refine WC.loopN h (fun (s : Unit) σ w => match s with | () => slots σ [(11, (pq gh40_)), (57, .slice A16 z5.2.2.1.length c17), (58, ii (z5.2.2.1.length : Int)), (59, ii 0)] ∧ CC F Γ78 [row_83, row11, row18] w ∧ True) ?_ ?_
 ·
  intro w hw
  exact ⟨slK, (hw.on [0, 3, 3]), trivial⟩
 rintro f84 ⟨⟩ σ w h ⟨hsl, hw, -⟩
 refine slV hsl hw [_, _, _] ?_; clear hw hsl
 refine WC.rs (sV aI (k:=WR.done (WC.seq ?_)))
 refine ciV h (fun hb88 h => ?_) (fun hb88 h => ?_)
 ·
  refine WC.skip (wc_ (WC.seq (WC.block (WC.rs ?_))))
  obtain ⟨hk89, h⟩ := ah h
  refine sV (bB (i := 0) underlying69 sizeOf61 rfl rfl rfl (of_decide_eq_true hk89) ((hr19.mono ((((hl25.trans hl39).trans hl69).trans hl74).trans hl79)).some_ (of_decide_eq_true hk89))) (k:=?_)
  obtain ⟨A90, c91, hx92⟩ := (hr19.mono ((((hl25.trans hl39).trans hl69).trans hl74).trans hl79)).slT_at 0
  refine sV (nw (c := 0) (v := .slice A90 (gt z5.2.2.1 0).length c91) (i := 2) rfl (hx92 (of_decide_eq_true hk89)).2 rfl isAgg61 rfl rfl) (k:=aV (k:=WR.done ?_))
  cases h
 refine WC.exit ?_
 change WC _ _ _ _ _ _
 refine WC.rs (mV (k:=aV (k:=aV (k:=WR.done ?_))))
 exact WC.ret fun w hw => re_ r [1, 0] h hF hw ⟨row11, gh40_, row_83, rfl, rfl, (hr12.mono ((((hl25.trans hl39).trans hl69).trans hl74).trans hl79)), hob_83, iV, trivial⟩
end Fw
end Go.Proofs.YtogmioecalmalaaGreat
