/- Walks through the functions that the law reaches (printed by a program). No condition. -/
import Derived.Test.YtlfmppjcgaekhaaGreatM
import Derived.Test.YtlfmppjcgaekhaaGreatS
namespace Go.Proofs.YtlfmppjcgaekhaaGreat
namespace Fw
set_option linter.unusedVariables false
set_option linter.unusedSimpArgs false
set_option linter.unusedSectionVars false
set_option maxRecDepth 100000
set_option maxHeartbeats 400000
open Go.RowKit
open Go.Proofs.Tryz
variable {Γ : Gh} {w0 : World}
def a7.ob (e : TypeId) (Γ : Gh) (g : Nat) (row : Rowb) (x : a7) : Prop := ∃ (m1 : Nat) (r1 : Rowb) (m2 : Nat) (r2 : Rowb) (A3 : Option Addr) (c3 : Nat) (r3 : Rowb), row = ([[(g, .cells #[.int .i64 x.room, .map (some m1), .map (some m2), .slice A3 x.loose.length c3] e (0, 0))], r1, r2, r3] : List Rowb).flatten ∧ I64 x.room ∧ MapO (strK Tryz.underlying9) (slT av).v Γ r1 m1 x.safe_ ∧ MapO (strK Tryz.underlying9) (slT av).v Γ r2 m2 x.seen ∧ Own ey Γ 111 r3 A3 c3 x.loose ∧ True
theorem a7.ob.mono {e : TypeId} {Γ Δ : Gh} {g : Nat} {row : Rowb} {x : a7} (h : a7.ob e Γ g row x) (hs : Γ.le Δ) : a7.ob e Δ g row x := by
  obtain ⟨m1, r1, m2, r2, A3, c3, r3, hr, h0, h1, h2, h3, _⟩ := h
  exact ⟨m1, r1, m2, r2, A3, c3, r3, hr, h0, h1.mono hs, h2.mono hs, h3.mono hs, trivial⟩
abbrev ao.ob (J : Gh → Rowb → ao → Prop) (Γ : Gh) (g : Nat) (row : Rowb) (x : ao) : Prop := YS.ob J Γ g row x
theorem ao.ob.mono {J : Gh → Rowb → ao → Prop} {Γ Δ : Gh} {g : Nat} {row : Rowb} {x : ao} (h : ao.ob J Γ g row x) (hs : Γ.le Δ) : ao.ob J Δ g row x := YS.ob.mono h hs
abbrev ag.ob (J : Gh → Rowb → ag → Prop) (Γ : Gh) (g : Nat) (row : Rowb) (x : ag) : Prop := YS.ob J Γ g row x
theorem ag.ob.mono {J : Gh → Rowb → ag → Prop} {Γ Δ : Gh} {g : Nat} {row : Rowb} {x : ag} (h : ag.ob J Γ g row x) (hs : Γ.le Δ) : ag.ob J Δ g row x := YS.ob.mono h hs
def af.ob (e : Nat × Nat) (Γ : Gh) (g : Nat) (row : Rowb) (x : af) : Prop := row = ([[(g, .cells #[.pointer (some ⟨e.2, 0, none⟩), .string x.place_name, .int .i64 x.place_gen, .int .i64 x.size, .int .i64 x.last, .int .i64 x.tail, .int .i64 x.count, .int .i64 x.bytes] e.1 (0, 0))]] : List Rowb).flatten ∧ x.place_name.size ≤ lim ∧ I64 x.place_gen ∧ I64 x.size ∧ I64 x.last ∧ I64 x.tail ∧ I64 x.count ∧ I64 x.bytes ∧ True
theorem af.ob.mono {e : Nat × Nat} {Γ Δ : Gh} {g : Nat} {row : Rowb} {x : af} (h : af.ob e Γ g row x) (hs : Γ.le Δ) : af.ob e Δ g row x := by
  obtain ⟨hr, h0, h1, h2, h3, h4, h5, h6, _⟩ := h
  exact ⟨hr, h0, h1, h2, h3, h4, h5, h6, trivial⟩
def a6.ob (e : Nat × Nat) (Γ : Gh) (g : Nat) (row : Rowb) (x : a6) : Prop := ∃ (A2 : Option Addr) (c2 : Nat) (A5 : Option Addr) (c5 : Nat) (g6 : Nat) (r6 : Rowb) (A7 : Option Addr) (c7 : Nat) (A8 : Option Addr) (A9 : Option Addr) (c9 : Nat) (r9 : Rowb) (m11 : Nat) (r11 : Rowb) (A12 : Option Addr) (c12 : Nat), row = ([[(g, .cells #[.int .i64 x.c_self, .int .i64 x.c_sites, .slice A2 x.c_links.length c2, .int .i64 x.c_cap, .int .i64 x.c_base, .slice A5 x.c_members.length c5, .pointer (some ⟨g6, 0, none⟩), .slice A7 x.applied.length c7, .pointer A8, .slice A9 x.list.length c9, .int .i64 x.next, .map (some m11), .slice A12 x.members.length c12] e.1 (0, 0))], r6, r9, r11] : List Rowb).flatten ∧ I64 x.c_self ∧ I64 x.c_sites ∧ x.c_links.length ≤ c2 ∧ Sl intT Γ A2 x.c_links ∧ I64 x.c_cap ∧ I64 x.c_base ∧ x.c_members.length ≤ c5 ∧ Sl intT Γ A5 x.c_members ∧ af.ob (156, e.2) Γ g6 r6 x.log ∧ x.applied.length ≤ c7 ∧ Sl intT Γ A7 x.applied ∧ Pd recT Γ A8 x.under ∧ LM aK ba (intK Tryz.underlying3) iW.v Γ 104 r9 A9 c9 x.list ∧ I64 x.next ∧ MapO (intK Tryz.underlying3) iW.v Γ r11 m11 x.gaps ∧ x.members.length ≤ c12 ∧ Sl intT Γ A12 x.members ∧ True
theorem a6.ob.mono {e : Nat × Nat} {Γ Δ : Gh} {g : Nat} {row : Rowb} {x : a6} (h : a6.ob e Γ g row x) (hs : Γ.le Δ) : a6.ob e Δ g row x := by
  obtain ⟨A2, c2, A5, c5, g6, r6, A7, c7, A8, A9, c9, r9, m11, r11, A12, c12, hr, h0, h1, h2, h3, h4, h5, h6, h7, h8, h9, h10, h11, h12, h13, h14, h15, h16, _⟩ := h
  exact ⟨A2, c2, A5, c5, g6, r6, A7, c7, A8, A9, c9, r9, m11, r11, A12, c12, hr, h0, h1, h2, h3.mono hs, h4, h5, h6, h7.mono hs, af.ob.mono h8 hs, h9, h10.mono hs, h11.mono hs, h12.mono hs, h13, h14.mono hs, h15, h16.mono hs, trivial⟩
def al.ob (e : TypeId) (Γ : Gh) (g : Nat) (row : Rowb) (x : al) : Prop := ∃ (A0 : Option Addr) (c0 : Nat), row = ([[(g, .cells #[.slice A0 x.b.length c0, .int .i64 x.at_, .bool x.bad] e (0, 0))]] : List Rowb).flatten ∧ x.b.length ≤ c0 ∧ Sl av Γ A0 x.b ∧ I64 x.at_ ∧ True
theorem al.ob.mono {e : TypeId} {Γ Δ : Gh} {g : Nat} {row : Rowb} {x : al} (h : al.ob e Γ g row x) (hs : Γ.le Δ) : al.ob e Δ g row x := by
  obtain ⟨A0, c0, hr, h0, h1, h2, _⟩ := h
  exact ⟨A0, c0, hr, h0, h1.mono hs, h2, trivial⟩
def a8.ob (e : TypeId) (Γ : Gh) (g : Nat) (row : Rowb) (x : a8) : Prop := ∃ (A0 : Option Addr) (c0 : Nat), row = ([[(g, .cells #[.slice A0 x.b.length c0, .int .i64 x.at_] e (0, 0))]] : List Rowb).flatten ∧ x.b.length ≤ c0 ∧ Sl av Γ A0 x.b ∧ I64 x.at_ ∧ True
theorem a8.ob.mono {e : TypeId} {Γ Δ : Gh} {g : Nat} {row : Rowb} {x : a8} (h : a8.ob e Γ g row x) (hs : Γ.le Δ) : a8.ob e Δ g row x := by
  obtain ⟨A0, c0, hr, h0, h1, h2, _⟩ := h
  exact ⟨A0, c0, hr, h0, h1.mono hs, h2, trivial⟩
def ae.ob (e : TypeId) (Γ : Gh) (g : Nat) (row : Rowb) (x : ae) : Prop := ∃ (A0 : Option Addr) (c0 : Nat) (r0 : Rowb), row = ([[(g, .cells #[.slice A0 x.b.length c0] e (0, 0))], r0] : List Rowb).flatten ∧ Own av Γ 5 r0 A0 c0 x.b ∧ True
theorem ae.ob.mono {e : TypeId} {Γ Δ : Gh} {g : Nat} {row : Rowb} {x : ae} (h : ae.ob e Γ g row x) (hs : Γ.le Δ) : ae.ob e Δ g row x := by
  obtain ⟨A0, c0, r0, hr, h0, _⟩ := h
  exact ⟨A0, c0, r0, hr, h0.mono hs, trivial⟩
abbrev vw (r : a7) (U : List Rowb) (Γ : Gh) (v : Value) : Prop := ∃ (g0 : Nat), ∃ (row0 : Rowb), v = .pointer (some ⟨g0, 0, none⟩) ∧ U = [row0] ∧ a7.ob 93 Γ g0 row0 r ∧ True
theorem qK (room : Int) (hroom : I64 room) (hp : Pre [] Γ w0) {r : a7} (h : kw room = some r) : Calls Tryz.prog 9 #[ii room] w0 (Outc Γ [] w0 (vw r)) := by
 refine goV [2] func9 ntmps9 results9 hp fun F hF => ?_
 refine WC.rs (aV (k:=WR.done (WC.rs (mV (k:=sV qQ (k:=sV ug (k:=?_)))))))
 refine lq (strK underlying9) (slT av).v rfl rfl rfl rfl ?_
 intro g1 row2 hm3
 refine lq (strK underlying9) (slT av).v rfl rfl rfl rfl ?_
 intro g4 row5 hm6
 refine sV (aZ (v := .agg #[ii (min (max room 0) 1073741824), .map (some g1), .map (some g4), .slice none 0 0]) rfl (rH rfl rfl rfl) (fun w => by kernel_rfl)) (k:=?_)
 refine bxV (v := .agg #[ii (min (max room 0) 1073741824), .map (some g1), .map (some g4), .slice none 0 0]) fun g7 => ?_
 refine aV (k:=WR.done ?_)
 refine WC.ret ?_
 intro w hw
 have hw := hw.pad
 obtain ⟨row_8, hrow_8, hob_8⟩ : ∃ rw : Rowb, rw = ([[(g7, .cells #[ii (min (max room 0) 1073741824), .map (some g1), .map (some g4), .slice none 0 0] 93 (0, 0))], row2, row5, []] : List Rowb).flatten ∧ a7.ob 93 Γ g7 rw (⟨(min (max room 0) 1073741824), ([] : List (ByteArray × (List UInt8))), ([] : List (ByteArray × (List UInt8))), []⟩ : a7) := ⟨_, rfl, g1, row2, g4, row5, none, 0, [], rfl, (AE (xj hroom iV) iV), hm3, hm6, (Own.nil ey Γ 111), trivial⟩
 have hw := hw.fold (is := [1, 2, 1, 0]) rfl hrow_8
 obtain rfl := Option.some.inj h
 subst hF
 exact aO (is := [0]) (by kernel_rfl) hw rfl ⟨g7, row_8, rfl, rfl, hob_8, trivial⟩
abbrev pI (r : aa) (U : List Rowb) (Γ : Gh) (v : Value) : Prop := ∃ (A0_2 : Option Addr), ∃ (c0_2 : Nat), ∃ (A0_5 : Option Addr), ∃ (c0_5 : Nat), v = .agg #[.int .i64 r.self, .int .i64 r.sites, .slice A0_2 r.links.length c0_2, .int .i64 r.cap, .int .i64 r.base, .slice A0_5 r.members.length c0_5] ∧ U = [] ∧ aa.fits Γ A0_2 c0_2 A0_5 c0_5 r ∧ True
theorem pj  (hp : Pre [] Γ w0) {r : aa} (h : la = some r) : Calls Tryz.prog 7 #[] w0 (Outc Γ [] w0 (pI r)) := by
 refine dJ (N := 4) (rs := [.cell 0 25]) (args := []) func7 rfl ntmps7 results7 rfl ?_
 obtain ⟨F, hF⟩ : ∃ F : Fm, F = ⟨ids [], w0, Γ⟩ := ⟨_, rfl⟩
 refine WC.here (C := CC F Γ []) ?_ (hF ▸ hp.start)
 refine WC.rs ?_
 refine alV zeroValue25 fun g1 => ?_
 refine WR.done (WC.rs ?_)
 refine bsV #[ii 2] 3 fun g2 => ?_
 refine bsV #[ii 1] 3 fun g3 => ?_
 refine sV (aZ (v := .agg #[ii 1, ii 2, .slice (some ⟨g2, 0, none⟩) 1 1, ii 1, ii 0, .slice (some ⟨g3, 0, none⟩) 1 1]) rfl (vn rfl rfl rfl rfl rfl) (fun w => by kernel_rfl)) (k:=stV 2 (.agg #[ii 1, ii 2, .slice (some ⟨g2, 0, none⟩) 1 1, ii 1, ii 0, .slice (some ⟨g3, 0, none⟩) 1 1]) #[ii 1, ii 2, .slice (some ⟨g2, 0, none⟩) 1 1, ii 1, ii 0, .slice (some ⟨g3, 0, none⟩) 1 1] sizeOf25 (k:=WR.done ?_))
 refine WC.ret ?_
 intro w hw
 have ho4 : Own intT Γ 3 [(g2, .cells #[ii 2] 3 (0, 0))] (some ⟨g2, 0, none⟩) 1 [2] := Own.of_blockL (T := intT) (ys := [2]) [[ii 2]] rfl (show 1 ≤ lim by decide) ⟨⟨rfl, iV⟩, trivial⟩
 have hc9 := ho4.capz
 obtain ⟨Γ5, hw, hl6, hr7⟩ := hw.seal (i := 1) rfl; have hs8 := ho4.sl hl6 hr7
 have ho10 : Own intT Γ5 3 [(g3, .cells #[ii 1] 3 (0, 0))] (some ⟨g3, 0, none⟩) 1 [1] := Own.of_blockL (T := intT) (ys := [1]) [[ii 1]] rfl (show 1 ≤ lim by decide) ⟨⟨rfl, iV⟩, trivial⟩
 have hc15 := ho10.capz
 obtain ⟨Γ11, hw, hl12, hr13⟩ := hw.seal (i := 0) rfl; have hs14 := ho10.sl hl12 hr13
 obtain rfl := Option.some.inj h
 subst hF
 exact ⟨[.agg #[ii 1, ii 2, .slice (some ⟨g2, 0, none⟩) [2].length 1, ii 1, ii 0, .slice (some ⟨g3, 0, none⟩) [1].length 1]], (dp (i := 2) (us := [ii 1, ii 2, .slice (some ⟨g2, 0, none⟩) [2].length 1, ii 1, ii 0, .slice (some ⟨g3, 0, none⟩) [1].length 1]) hw rfl isAgg25 sizeOf25 (by kernel_rfl) rfl dk), aO (is := []) (by kernel_rfl) hw rfl ⟨(some ⟨g2, 0, none⟩), 1, (some ⟨g3, 0, none⟩), 1, rfl, rfl, ⟨iV, iV, ⟨hc9, (hs8.mono hl12)⟩, iV, iV, ⟨hc15, hs14⟩⟩, trivial⟩⟩
theorem th {Amembers : Option Addr} {cmembers : Nat} {members : List Int} (hmembers : Sl intT Γ Amembers members) (hmembersc : members.length ≤ cmembers) (hs : Sat Γ w0) {r : Bool} (h : jZ members = some r) : CQ Tryz.prog 61 #[.slice Amembers members.length cmembers] w0 (.bool r) := by
 refine goQ [2] func61 ntmps61 results61 hs fun F hF => ?_
 refine WC.rs (aV (k:=WR.done (WC.seq (WC.rs (mV (k:=sV (ab rfl underlying22) (k:=mV (k:=?_))))))))
 refine WR.done (WC.block ?_)
 refine WC.forI h (fun (i2 : Nat) (s : Unit) σ w => match s with | () => slots σ [(0, .slice Amembers members.length cmembers), (5, .slice Amembers members.length cmembers), (6, ii (members.length : Int)), (7, ii (i2 : Int))] ∧ CC F Γ [] w ∧ True) ?_ ?_
 ·
  intro w hw
  exact ⟨slK, hw, trivial⟩
 rintro f1 i2 ⟨⟩ σ w hi3 hlt4 hge5 ⟨hsl, hw, -⟩
 refine slV hsl hw [] ?_; clear hw hsl
 refine WC.rs (sV aS (k:=WR.done (WC.seq ?_)))
 refine coV (fun hb6 => ?_) (fun hb6 => ?_)
 ·
  have hl7 := ilt hb6
  have h := hlt4 hl7
  refine WC.skip (wc_ (WC.seq (WC.block (WC.rs (mV (k:=sV (bb (i := i2) underlying22 sizeOf3 rfl rfl rfl hl7 (hmembers.some_ hl7)) (k:=sV (q_ld (c := 0) (v := ii (gt members i2)) (hmembers.intT_at hl7).2 rfl isAgg3 rfl rfl) (k:=?_))))))))
  refine aV (k:=aV (k:=WR.done (WC.rs (mV (k:=sV aS (k:=mV (k:=vG0 (h:=fun hg8 => moV) (k:=?_))))))))
  refine vG0 (h:=fun hg9 => bB rfl (grV hg9)) (k:=sV pkO (k:=mV (k:=vG0 (h:=fun hg10 => moV) (k:=vG0 (h:=fun hg11 => bB rfl (grV hg11)) (k:=vG0 (h:=fun hg12 => ay (v := .bool (decide (0 < (i2 : Int)))) rfl (grV hg12)) (k:=vh1 (c0 := (!((decide ((gt members i2) < 1)) || (decide (8 < (gt members i2)))))) (g := (decide (0 < (i2 : Int)))) rfl rfl rfl rfl rfl (fun _ => QV.qo moV) (vh1 (c0 := (!((decide ((gt members i2) < 1)) || (decide (8 < (gt members i2)))))) (g := (decide (0 < (i2 : Int)))) rfl rfl rfl rfl rfl (fun _ => QV.qo moV) ?_)))))))
  refine vh1 (c0 := (!((decide ((gt members i2) < 1)) || (decide (8 < (gt members i2)))))) (g := (decide (0 < (i2 : Int)))) rfl rfl rfl rfl rfl (fun _ => QV.qo moV) (vh1 (c0 := (!((decide ((gt members i2) < 1)) || (decide (8 < (gt members i2)))))) (g := (decide (0 < (i2 : Int)))) rfl rfl rfl rfl rfl (fun hg16 => QV.qo (hQ rfl (grV hg16))) ?_)
  obtain ⟨hk18, h⟩ := ai h
  refine vh1 (c0 := (!((decide ((gt members i2) < 1)) || (decide (8 < (gt members i2)))))) (g := (decide (0 < (i2 : Int)))) rfl rfl rfl rfl rfl (fun hg17 => QV.qo (q_ix underlying22 sizeOf3 rfl (grV hg17) (grV hg17) (bg hk18 hg17) (hmembers.some_ (bG (bg hk18 hg17))))) (vh1 (c0 := (!((decide ((gt members i2) < 1)) || (decide (8 < (gt members i2)))))) (g := (decide (0 < (i2 : Int)))) rfl rfl rfl rfl rfl (fun hg19 => QV.qo (q_ld (c := 0) (v := ii (gt members ((w64 ((i2 : Int) - 1)).toNat))) (hmembers.intT_at (bG (bg hk18 hg19))).2 rfl isAgg3 (grV hg19) rfl)) (vh1 (c0 := (!((decide ((gt members i2) < 1)) || (decide (8 < (gt members i2)))))) (g := (decide (0 < (i2 : Int)))) rfl rfl rfl rfl rfl (fun hg20 => QV.qo (gm rfl (grV hg20) (grV hg20))) (vG0 (h:=fun hg21 => fU rfl (grV hg21) (kX (c := (!((decide ((gt members i2) < 1)) || (decide (8 < (gt members i2)))))) (g := (decide (0 < (i2 : Int)))) (y := (decide ((gt members i2) ≤ (gt members ((w64 ((i2 : Int) - 1)).toNat))))) hg21)) (k:=sV pkO (k:=WR.done ?_)))))
  refine ciV h (fun hb22 h => ?_) (fun hb22 h => ?_)
  ·
   refine WC.rs (aV (k:=WR.done ?_))
   exact WC.ret fun w hw => rq_ r h hF hw
  refine WC.skip (wc_ ?_)
  refine WC.region ?_
  refine sV (aC rfl rfl rfl (aP hl7 hmembers.le)) (k:=mV (k:=?_))
  refine WR.nil ?_
  intro w hw
  exact ⟨hl7, (), h, slK, hw, trivial⟩
 have h := hge5 (ige hb6)
 refine WC.exit ?_
 change WC _ _ _ _ _ _
 refine WC.rs (mV (k:=sV (ab rfl underlying22) (k:=sV bB (k:=aV (k:=WR.done ?_)))))
 exact WC.ret fun w hw => rq_ r h hF hw
theorem nA {Ac_2 : Option Addr} {cc_2 : Nat} {Ac_5 : Option Addr} {cc_5 : Nat} (c_ : aa) (hc_ : aa.fits Γ Ac_2 cc_2 Ac_5 cc_5 c_) (hs : Sat Γ w0) {r : Bool} (h : dB c_ = some r) : CQ Tryz.prog 30 #[.agg (aa.cs Ac_2 cc_2 Ac_5 cc_5 c_).toArray] w0 (.bool r) := by
 refine goQ [2] func30 ntmps30 results30 hs fun F hF => ?_
 refine WC.rs ?_
 refine bxV (v := .agg (aa.cs Ac_2 cc_2 Ac_5 cc_5 c_).toArray) fun g1 => ?_
 refine aV (k:=WR.done (WC.seq (WC.rs (sV (q_fl 2 gx) (k:=sV (ldV 0 isAgg22) (k:=sV (ab rfl underlying22) (k:=mV (k:=?_))))))))
 refine WR.done (WC.block ?_)
 refine WC.forI h (fun (i3 : Nat) (s : Unit) σ w => match s with | () => slots σ [(1, (pq g1)), (6, .slice Ac_2 c_.links.length cc_2), (7, ii (c_.links.length : Int)), (8, ii (i3 : Int))] ∧ CC F Γ [[(g1, .cells (aa.cs Ac_2 cc_2 Ac_5 cc_5 c_).toArray 25 (0, 0))]] w ∧ True) ?_ ?_
 ·
  intro w hw
  exact ⟨slK, hw, trivial⟩
 rintro f2 i3 ⟨⟩ σ w hi4 hlt5 hge6 ⟨hsl, hw, -⟩
 refine slV hsl hw [_] ?_; clear hw hsl
 refine WC.rs (sV aS (k:=WR.done (WC.seq ?_)))
 refine coV (fun hb7 => ?_) (fun hb7 => ?_)
 ·
  have hl8 := ilt hb7
  have h := hlt5 hl8
  refine WC.skip (wc_ (WC.seq (WC.block (WC.rs (mV (k:=sV (bb (i := i3) underlying22 sizeOf3 rfl rfl rfl hl8 (hc_.2.2.1.2.some_ hl8)) (k:=sV (q_ld (c := 0) (v := ii (gt c_.links i3)) (hc_.2.2.1.2.intT_at hl8).2 rfl isAgg3 rfl rfl) (k:=?_))))))))
  refine aV (k:=aV (k:=WR.done (WC.rs (mV (k:=sV aS (k:=mV (k:=vG0 (h:=fun hg9 => moV) (k:=?_))))))))
  refine vG0 (h:=fun hg10 => q_fl 1 iD) (k:=vG0 (h:=fun hg11 => ldV 0 isAgg3 (hx:=grV hg11)) (k:=vG0 (h:=fun hg12 => bB rfl (grV hg12) (grV hg12)) (k:=sV pkO (k:=mV (k:=vG0 (h:=fun hg13 => moV) (k:=vG0 (h:=fun hg14 => q_fl 0 iJ) (k:=vG0 (h:=fun hg15 => ldV 0 isAgg3 (hx:=grV hg15)) (k:=?_))))))))
  refine vG0 (h:=fun hg16 => bp rfl (grV hg16) (grV hg16)) (k:=sV pkO (k:=mV (k:=vG0 (h:=fun hg17 => moV) (k:=vG0 (h:=fun hg18 => bB rfl (grV hg18)) (k:=vG0 (h:=fun hg19 => ay (v := .bool (decide (0 < (i3 : Int)))) rfl (grV hg19)) (k:=vh1 (c0 := (!(((decide ((gt c_.links i3) < 1)) || (decide (c_.sites < (gt c_.links i3)))) || ((gt c_.links i3) == c_.self)))) (g := (decide (0 < (i3 : Int)))) rfl rfl rfl rfl rfl (fun _ => QV.qo moV) (vh1 (c0 := (!(((decide ((gt c_.links i3) < 1)) || (decide (c_.sites < (gt c_.links i3)))) || ((gt c_.links i3) == c_.self)))) (g := (decide (0 < (i3 : Int)))) rfl rfl rfl rfl rfl (fun _ => QV.qo (q_fl 2 gx)) ?_)))))))
  refine vh1 (c0 := (!(((decide ((gt c_.links i3) < 1)) || (decide (c_.sites < (gt c_.links i3)))) || ((gt c_.links i3) == c_.self)))) (g := (decide (0 < (i3 : Int)))) rfl rfl rfl rfl rfl (fun hg22 => QV.qo (ldV 0 isAgg22 (hx:=grV hg22))) (vh1 (c0 := (!(((decide ((gt c_.links i3) < 1)) || (decide (c_.sites < (gt c_.links i3)))) || ((gt c_.links i3) == c_.self)))) (g := (decide (0 < (i3 : Int)))) rfl rfl rfl rfl rfl (fun _ => QV.qo moV) (vh1 (c0 := (!(((decide ((gt c_.links i3) < 1)) || (decide (c_.sites < (gt c_.links i3)))) || ((gt c_.links i3) == c_.self)))) (g := (decide (0 < (i3 : Int)))) rfl rfl rfl rfl rfl (fun hg24 => QV.qo (hQ rfl (grV hg24))) ?_))
  obtain ⟨hk26, h⟩ := ai h
  refine vh1 (c0 := (!(((decide ((gt c_.links i3) < 1)) || (decide (c_.sites < (gt c_.links i3)))) || ((gt c_.links i3) == c_.self)))) (g := (decide (0 < (i3 : Int)))) rfl rfl rfl rfl rfl (fun hg25 => QV.qo (q_ix underlying22 sizeOf3 rfl (grV hg25) (grV hg25) (bg hk26 hg25) (hc_.2.2.1.2.some_ (bG (bg hk26 hg25))))) (vh1 (c0 := (!(((decide ((gt c_.links i3) < 1)) || (decide (c_.sites < (gt c_.links i3)))) || ((gt c_.links i3) == c_.self)))) (g := (decide (0 < (i3 : Int)))) rfl rfl rfl rfl rfl (fun hg27 => QV.qo (q_ld (c := 0) (v := ii (gt c_.links ((w64 ((i3 : Int) - 1)).toNat))) (hc_.2.2.1.2.intT_at (bG (bg hk26 hg27))).2 rfl isAgg3 (grV hg27) rfl)) (vh1 (c0 := (!(((decide ((gt c_.links i3) < 1)) || (decide (c_.sites < (gt c_.links i3)))) || ((gt c_.links i3) == c_.self)))) (g := (decide (0 < (i3 : Int)))) rfl rfl rfl rfl rfl (fun hg28 => QV.qo (gm rfl (grV hg28) (grV hg28))) (vG0 (h:=fun hg29 => fU rfl (grV hg29) (kX (c := (!(((decide ((gt c_.links i3) < 1)) || (decide (c_.sites < (gt c_.links i3)))) || ((gt c_.links i3) == c_.self)))) (g := (decide (0 < (i3 : Int)))) (y := (decide ((gt c_.links i3) ≤ (gt c_.links ((w64 ((i3 : Int) - 1)).toNat))))) hg29)) (k:=sV pkO (k:=WR.done ?_)))))
  refine ciV h (fun hb30 h => ?_) (fun hb30 h => ?_)
  ·
   refine WC.rs (aV (k:=WR.done ?_))
   exact WC.ret fun w hw => rq_ r h hF hw
  refine WC.skip (wc_ ?_)
  refine WC.region ?_
  refine sV (aC rfl rfl rfl (aP hl8 hc_.2.2.1.2.le)) (k:=mV (k:=?_))
  refine WR.nil ?_
  intro w hw
  exact ⟨hl8, (), h, slK, hw, trivial⟩
 have h := hge6 (ige hb7)
 refine WC.exit ?_
 change WC _ _ _ _ _ _
 refine WC.rs (sV (q_fl 1 iD) (k:=sV (ldV 0 isAgg3) (k:=sV kE (k:=mV (k:=vG1 (h:=fun hg31 => q_fl 1 iD) (k:=vG1 (h:=fun hg32 => ldV 0 isAgg3 (hx:=grV hg32)) (k:=vG1 (h:=fun hg33 => gm rfl (grV hg33)) (k:=?_))))))))
 refine sV pkA (k:=mV (k:=vG1 (h:=fun hg34 => q_fl 0 iJ) (k:=vG1 (h:=fun hg35 => ldV 0 isAgg3 (hx:=grV hg35)) (k:=vG1 (h:=fun hg36 => kE rfl (grV hg36)) (k:=sV pkA (k:=mV (k:=vG1 (h:=fun hg37 => q_fl 0 iJ) (k:=?_))))))))
 refine vG1 (h:=fun hg38 => ldV 0 isAgg3 (hx:=grV hg38)) (k:=vG1 (h:=fun hg39 => q_fl 1 iD) (k:=vG1 (h:=fun hg40 => ldV 0 isAgg3 (hx:=grV hg40)) (k:=vG1 (h:=fun hg41 => gm rfl (grV hg41) (grV hg41)) (k:=sV pkA (k:=mV (k:=vG1 (h:=fun hg42 => q_fl 3 kb) (k:=vG1 (h:=fun hg43 => ldV 0 isAgg3 (hx:=grV hg43)) (k:=?_))))))))
 refine vG1 (h:=fun hg44 => kE rfl (grV hg44)) (k:=sV pkA (k:=mV (k:=vG1 (h:=fun hg45 => q_fl 3 kb) (k:=vG1 (h:=fun hg46 => ldV 0 isAgg3 (hx:=grV hg46)) (k:=vG1 (h:=fun hg47 => gm rfl (grV hg47)) (k:=sV pkA (k:=mV (k:=?_))))))))
 refine vG1 (h:=fun hg48 => q_fl 4 l7) (k:=vG1 (h:=fun hg49 => ldV 0 isAgg2 (hx:=grV hg49)) (k:=vG1 (h:=fun hg50 => kE rfl (grV hg50)) (k:=sV pkA (k:=mV (k:=vG1 (h:=fun hg51 => q_fl 4 l7) (k:=vG1 (h:=fun hg52 => ldV 0 isAgg2 (hx:=grV hg52)) (k:=vG1 (h:=fun hg53 => gm rfl (grV hg53)) (k:=?_))))))))
 refine sV pkA (k:=mV (k:=vG1 (h:=fun hg54 => q_fl 5 r8) (k:=vG1 (h:=fun hg55 => ldV 0 isAgg22 (hx:=grV hg55)) (k:=?_))))
 obtain ⟨z57, hz58, h⟩ := bnd h
 refine vC1 (h:=fun hg56 => bl (aR call61 rfl rfl (mB (grV hg56))) (fun w hw => th (Γ := Gh.all w) (hc_.2.2.2.2.2.2.mono hw.sat.le_all) hc_.2.2.2.2.2.1 (Sat.all w) (eQ hz58 hg56))) (k:=sV pkA (k:=aV (k:=WR.done ?_)))
 exact WC.ret fun w hw => rq_ r h hF hw
theorem iB (s_ : ByteArray) (hs_ : s_.size ≤ lim) (c_ : Int) (hc_ : U8 c_) (hs : Sat Γ w0) {r : Int} (h : cF s_ c_ = some r) : CQ Tryz.prog 227 #[.string s_, .int .u8 c_] w0 (ii r) := by
 refine goQ [4] func227 ntmps227 results227 hs fun F hF => ?_
 refine WC.rs (aV (k:=WR.done (WC.rs (mV (k:=mV (k:=sV (Ch (s := s_) (c := c_) func267 (by kernel_rfl) (by kernel_rfl) (by kernel_rfl) (by kernel_rfl) rfl (by kernel_rfl)) (k:=aV (k:=?_))))))))
 refine WR.done ?_
 exact WC.ret fun w hw => rq_ r h hF hw
theorem fI (s_ : ByteArray) (hs_ : s_.size ≤ lim) (hs : Sat Γ w0) {r : Int} (h : bh s_ = some r) : CQ Tryz.prog 182 #[.string s_, .string (⟨#[46]⟩ : ByteArray)] w0 (ii r) := by
 refine goQ [4] func182 ntmps182 results182 hs fun F hF => ?_
 refine WC.rs (aV (k:=WR.done (WC.rs (mV (k:=sV (show QV _ _ _ _ (ii 1) from (show QV _ _ _ _ (ii (((⟨#[46]⟩ : ByteArray).size : Nat) : Int)) from cJ rfl underlying9)) (k:=aV (k:=WR.done ?_)))))))
 refine WC.seq (WC.block (WC.rs (mV (k:=sV bp (k:=mV (k:=?_))))))
 refine WR.sat (c0 := true) (g := (1 == 0)) rfl rfl rfl (notf (show (((1 : Int) == 0)) = false by decide)) ?_
 refine mV (k:=?_)
 refine WR.sat (c0 := true) (g := (1 == 0)) rfl rfl rfl (notf (show (((1 : Int) == 0)) = false by decide)) ?_
 refine mV (k:=?_)
 refine WR.sat (c0 := true) (g := (1 == 0)) rfl rfl rfl (notf (show (((1 : Int) == 0)) = false by decide)) ?_
 refine sV rC (k:=sV (dK (v := .bool ((⟨#[46]⟩ : ByteArray) == s_)) rfl rfl (show (((1 : Int) == 0)) = false by decide) (by kernel_rfl)) (k:=aV (k:=WR.done ?_)))
 refine ciV h (fun hb1 h => ?_) (fun hb1 h => ?_)
 ·
  refine WC.rs (aV (k:=WR.done ?_))
  exact WC.ret fun w hw => rq_ r h hF hw
 refine WC.rs (mV (k:=sV bp (k:=aV (k:=WR.done ?_))))
 refine WC.ctk (b := (1 == 1)) (by kernel_rfl) (show (((1 : Int) == 1)) = true by decide) ?_
 refine WC.rs (mV (k:=mV (k:=sV (show QV _ _ _ _ (.int .u8 46) from yE (s := (⟨#[46]⟩ : ByteArray)) (i := 0) underlying9 rfl rfl rfl (by decide)) (k:=?_))))
 obtain ⟨z2, hz3, h⟩ := bnd h
 refine vqV (caV call227) (fun w hw => iB (Γ := Gh.all w) s_ hs_ 46 (show U8 46 by decide) (Sat.all w) hz3) (k:=aV (k:=WR.done ?_))
 exact WC.ret fun w hw => rq_ r h hF hw
theorem qr (s_ : ByteArray) (hs_ : s_.size ≤ lim) (hs : Sat Γ w0) {r : Int} (h : ig s_ = some r) : CQ Tryz.prog 130 #[.string s_, .string (⟨#[46]⟩ : ByteArray)] w0 (ii r) := by
 refine goQ [4] func130 ntmps130 results130 hs fun F hF => ?_
 refine WC.rs (aV (k:=WR.done (WC.rs (mV (k:=mV (k:=?_))))))
 obtain ⟨z1, hz2, h⟩ := bnd h
 refine vqV (caV call182) (fun w hw => fI (Γ := Gh.all w) s_ hs_ (Sat.all w) hz2) (k:=aV (k:=WR.done ?_))
 exact WC.ret fun w hw => rq_ r h hF hw
theorem nK (s_ : ByteArray) (hs_ : s_.size ≤ lim) (hs : Sat Γ w0) {r : Bool} (h : fA s_ = some r) : CQ Tryz.prog 62 #[.string s_, .string (⟨#[46]⟩ : ByteArray)] w0 (.bool r) := by
 refine goQ [4] func62 ntmps62 results62 hs fun F hF => ?_
 refine WC.rs (aV (k:=WR.done (WC.rs (mV (k:=mV (k:=?_))))))
 obtain ⟨z1, hz2, h⟩ := bnd h
 refine vqV (caV call130) (fun w hw => qr (Γ := Gh.all w) s_ hs_ (Sat.all w) hz2) (k:=sV kE (k:=aV (k:=WR.done ?_)))
 exact WC.ret fun w hw => rq_ r h hF hw
theorem jU {gp__0 : Nat} (p__1 : ByteArray) (hp__1 : p__1.size ≤ lim) (p__2 : Int) (hp__2 : I64 p__2) (hs : Sat Γ w0) {r : ByteArray} (h : eJ p__1 p__2 = some r) : CQ Tryz.prog 66 #[.agg #[(pq gp__0), .string p__1, ii p__2]] w0 (.string r) := by
 refine goQ [2] func66 ntmps66 results66 hs fun F hF => ?_
 refine WC.rs ?_
 refine bxV (v := .agg #[(pq gp__0), .string p__1, ii p__2]) fun g1 => ?_
 refine aV (k:=WR.done (WC.rs (sV (q_fl 1 pr) (k:=sV (ldV 0 isAgg9) (k:=sV (pw rfl rfl rfl hp__1 (show (⟨#[46, 109]⟩ : ByteArray).size ≤ lim by decide)) (k:=aV (k:=WR.done ?_)))))))
 exact WC.ret fun w hw => rq_ r h hF hw
abbrev kW (r : List UInt8) (U : List Rowb) (Γ : Gh) (v : Value) : Prop := ∃ (A0 : Option Addr), ∃ (c0 : Nat), ∃ (row0 : Rowb), v = .slice A0 r.length c0 ∧ U = [row0] ∧ Own av Γ 5 row0 A0 c0 r ∧ True
theorem i7 {As_ : Option Addr} {cs_ : Nat} {s_ : List UInt8} (hs_ : Sl av Γ As_ s_) (hs_c : s_.length ≤ cs_) (hp : Pre [] Γ w0) {r : List UInt8} (h : ci s_ = some r) : Calls Tryz.prog 183 #[.slice As_ s_.length cs_] w0 (Outc Γ [] w0 (kW r)) := by
 refine goV [2] func183 ntmps183 results183 hp fun F hF => ?_
 refine WC.rs (aV (k:=WR.done (WC.seq (WC.rs (mV (k:=sV (md underlying70 rfl rfl rfl) (k:=WR.done ?_)))))))
 refine WC.cnil h (by kernel_rfl) (fun hb => hs_.none_nil hb) (fun hb1 h => ?_) (fun hb1 h => ?_)
 ·
  refine WC.rs (aV (k:=WR.done ?_))
  refine WC.ret ?_
  intro w hw
  have hw := hw.pad
  exact re_ r [0] h hF hw ⟨none, 0, [], rfl, rfl, (Own.nil av _ 5), trivial⟩
 refine WC.skip (wc_ (WC.rs ?_))
 refine bsV #[] 5 fun g2 => ?_
 refine mV (k:=?_)
 have ho3 : Own av Γ 5 [(g2, .cells #[] 5 (0, 0))] (some ⟨g2, 0, none⟩) 0 ([] : List UInt8) := Own.of_blockL (T := av) (ys := ([] : List UInt8)) [] rfl (show 0 ≤ lim by decide) (show True from trivial)
 obtain ⟨hk4, h⟩ := ai h
 refine apV 0 s_ gT ho3 (of_decide_eq_true hk4) (fun w hw => mv hs_ hw) ?_
 intro row5 A6 c7 ho8
 refine aV (k:=WR.done ?_)
 exact WC.ret fun w hw => re_ r [0] h hF hw ⟨A6, c7, row5, rfl, rfl, ho8, trivial⟩
abbrev pt (gd : Nat) (ed : Nat) (rowd : Rowb) (r : (List UInt8) × Bool) (U : List Rowb) (Γ : Gh) (v : Value) : Prop := ∃ (A0 : Option Addr), ∃ (c0 : Nat), ∃ (row0 : Rowb), v = .tuple #[.slice A0 r.1.length c0, .bool r.2] ∧ U = [rowd, row0] ∧ Own av Γ 5 row0 A0 c0 r.1 ∧ True
theorem jd {gd ed : Nat} {rowd : Rowb} {d : a7} (hd : a7.ob ed Γ gd rowd d) (name : ByteArray) (hname : name.size ≤ lim) (hp : Pre [rowd] Γ w0) {r : (List UInt8) × Bool} (h : du d name = some r) : Calls Tryz.prog 131 #[(pq gd), .string name] w0 (Outc Γ [rowd] w0 (pt gd ed rowd r)) := by
 refine goV [4, 5] func131 ntmps131 results131 hp fun F hF => ?_
 refine WC.rs (aV (k:=aV (k:=WR.done (WC.rs (mV (k:=sV nlV (k:=sV (q_fl 2 jF) (k:=?_))))))))
 obtain ⟨m1_1, r1_1, m2_1, r2_1, A3_1, c3_1, r3_1, hrow_1, ho0_1, ho1_1, ho2_1, ho3_1, -⟩ := id hd
 refine ufR 0 hrow_1 [_, _, _, _] ?_
 refine sV (ldV 0 isAgg90) (k:=mV (k:=?_))
 obtain ⟨v2, ⟨A5, c6, hv3, hc7, hs8⟩, hat4⟩ := MapO.look ho2_1 name (z := .slice none 0 0) (zx := []) ⟨none, 0, rfl, Nat.zero_le _, Sl.nil _ _ _⟩
 obtain rfl : v2 = _ := List.cons.inj hv3 |>.1
 refine sV (xh (v := .slice A5 ((mget name d.seen).getD []).length c6) hat4 rfl underlying90 zeroValue70 rfl rfl (i := 2) rfl) (k:=mV (k:=sV exV (k:=sV exV (k:=aV (k:=aV (k:=WR.done (WC.rs ?_)))))))
 refine mV (k:=?_)
 obtain ⟨z9, hz10, h⟩ := bnd h
 refine ecV [] (caV call183) (fun w hp => i7 hs8 hc7 hp hz10) ?_
 rintro Γ11 _ _ hl12 ⟨A15, c16, row17, rfl, rfl, hr18, _⟩
 refine cwV 18 [_, _, _, _, _] (mV (k:=aV (k:=aV (k:=WR.done ?_))))
 refine WC.ret ?_
 intro w hw
 have hw := hw.fold (is := [1, 1, 1, 1]) rfl hrow_1
 exact re_ r [0, 0] h hF hw ⟨A15, c16, row17, rfl, rfl, hr18, trivial⟩
theorem l9 {Ab : Option Addr} {cb : Nat} {b : List UInt8} (hb : Sl av Γ Ab b) (hbc : b.length ≤ cb) (at_ : Int) (hat_ : I64 at_) (hs : Sat Γ w0) {r : Int × Int × Int} (h : fO b at_ = some r) : CQ Tryz.prog 133 #[.slice Ab b.length cb, ii at_] w0 (.tuple #[ii r.1, ii r.2.1, ii r.2.2]) := by
 refine goQ [4, 5, 6] func133 ntmps133 results133 hs fun F hF => ?_
 refine WC.rs (aV (k:=aV (k:=aV (k:=WR.done (WC.scope (WC.seq (WC.rs ?_)))))))
 refine mV (k:=sV aS (k:=mV (k:=vG0 (h:=fun hg1 => moV) (k:=vG0 (h:=fun hg2 => moV) (k:=vG0 (h:=fun hg3 => ab rfl underlying70 (grV hg3)) (k:=vG0 (h:=fun hg4 => bB rfl (grV hg4) (grV hg4)) (k:=sV pkO (k:=?_))))))))
 refine WR.done ?_
 refine ciV h (fun hb5 h => ?_) (fun hb5 h => ?_)
 ·
  refine WC.rs (aV (k:=aV (k:=aV (k:=WR.done ?_))))
  exact WC.ret fun w hw => by obtain rfl := Option.some.inj h; exact ⟨by kernel_rfl, fr_ hF hw⟩
 refine WC.skip (wc_ (WC.rs (aV (k:=WR.done (WC.rs (aV (k:=WR.done ?_)))))))
 refine WC.seq ?_
 refine WC.label ?_
 change WC _ _ _ _ _ _
 refine WC.cut (fun σ w => ∃ (e_6 : Int), k3 e_6 = some r ∧ slots σ [(7, ii e_6)] ∧ CC F Γ [] w ∧ I64 e_6 ∧ True) ?_ ?_
 ·
  refine WC.rs (mV (k:=mV (k:=?_)))
  obtain ⟨hk8, h⟩ := ai h
  refine sV (ly (c := cb) (lo := at_.toNat) (xs := b) underlying70 sizeOf5 rfl rfl (iG rfl hk8) (cm hk8)) (k:=sV (ab rfl underlying70) (k:=mV (k:=WR.done (WC.block ?_))))
  refine WC.forI h (fun (i11 : Nat) (n_9 : Int) σ w => slots σ [(1, ii at_), (7, ii 4), (8, .int .u64 n_9), (21, .slice (if cb = at_.toNat then Ab else Option.map (fun a => a.add (at_.toNat * 1)) Ab) (List.drop at_.toNat b).length (cb - at_.toNat)), (22, ii (((List.drop at_.toNat b).length : Nat) : Int)), (23, ii (i11 : Int))] ∧ CC F Γ [] w ∧ True) ?_ ?_
  ·
   intro w hw
   exact ⟨slK, hw, trivial⟩
  rintro f10 i11 n_9 σ w hi12 hlt13 hge14 ⟨hsl, hw, -⟩
  refine slV hsl hw [] ?_; clear hw hsl
  refine WC.rs (sV aS (k:=WR.done (WC.seq ?_)))
  refine coV (fun hb15 => ?_) (fun hb15 => ?_)
  ·
   have hl16 := ilt hb15
   have h := hlt13 hl16
   refine WC.skip (wc_ (WC.seq (WC.block (WC.rs (mV (k:=sV (bb (i := i11) underlying70 sizeOf5 rfl rfl rfl hl16 ((hb.cut_from (c := cb) (lo := at_.toNat) (cm hk8) hbc).some_ hl16)) (k:=sV (q_ld (c := 0) (v := .int .u8 (((gt (List.drop at_.toNat b) i11).toNat : Nat) : Int)) ((hb.cut_from (c := cb) (lo := at_.toNat) (cm hk8) hbc).byteT_at hl16).2 rfl isAgg5 rfl rfl) (k:=?_))))))))
   refine aV (k:=aV (k:=WR.done (WC.seq (WC.block ?_))))
   refine WC.cut (fun σ w => ∃ (x_17 : Bool), jn b at_ n_9 f10 i11 x_17 = some r ∧ slots σ [(1, ii at_), (7, ii 4), (8, .int .u64 n_9), (9, ii (i11 : Int)), (10, .int .u8 (((gt (List.drop at_.toNat b) i11).toNat : Nat) : Int)), (21, .slice (if cb = at_.toNat then Ab else Option.map (fun a => a.add (at_.toNat * 1)) Ab) (List.drop at_.toNat b).length (cb - at_.toNat)), (22, ii (((List.drop at_.toNat b).length : Nat) : Int)), (23, ii (i11 : Int)), (28, .bool x_17)] ∧ CC F Γ [] w ∧ True) ?_ ?_
   ·
    refine WC.rs (mV (k:=sV bp (k:=mV (k:=vG1 (h:=fun hg18 => moV) (k:=vG1 (h:=fun hg19 => bB rfl (grV hg19)) (k:=sV pkA (k:=aV (k:=?_))))))))
    refine WR.done ?_
    refine ciV h (fun hb20 h => ?_) (fun hb20 h => ?_)
    ·
     refine WC.skip ?_
     intro w hw
     exact ⟨(((i11 : Int) == 8) && (decide (127 < (((gt (List.drop at_.toNat b) i11).toNat : Nat) : Int)))), h, slK, hw, trivial⟩
    refine WC.region ?_
    refine mV (k:=sV bB (k:=mV (k:=vG1 (h:=fun hg21 => moV) (k:=vG1 (h:=fun hg22 => bp rfl (grV hg22)) (k:=sV pkA (k:=aV (k:=?_)))))))
    refine WR.nil ?_
    intro w hw
    exact ⟨((decide (0 < (i11 : Int))) && ((((gt (List.drop at_.toNat b) i11).toNat : Nat) : Int) == 0)), h, slK, hw, trivial⟩
   rintro σ w ⟨x_17, h, hsl, hw, -⟩
   refine slV hsl hw [] ?_; clear hw hsl
   refine ciV h (fun hb23 h => ?_) (fun hb23 h => ?_)
   ·
    refine WC.rs (aV (k:=WR.done ?_))
    refine WC.exit ?_
    intro w hw
    exact ⟨2, h, slK, hw, iV, trivial⟩
   refine WC.rs (mV (k:=sV aS (k:=aV (k:=WR.done ?_))))
   refine ciV h (fun hb24 h => ?_) (fun hb24 h => ?_)
   ·
    refine WC.rs (mV (k:=mV (k:=sV (gZ underlying285 underlying5) (k:=mV (k:=sV ud (k:=?_))))))
    obtain ⟨hk25, h⟩ := ai h
    refine sV (Aj rfl rfl rfl hk25) (k:=sV q_or (k:=sV (gZ underlying2 underlying285) (k:=mV (k:=mV (k:=sV eE (k:=sV eE (k:=aV (k:=?_))))))))
    refine aV (k:=aV (k:=WR.done ?_))
    exact WC.ret fun w hw => by obtain rfl := Option.some.inj h; exact ⟨by kernel_rfl, fr_ hF hw⟩
   refine WC.skip (wc_ ?_)
   refine WC.region ?_
   refine mV (k:=mV (k:=sV xM (k:=sV (gZ underlying285 underlying5) (k:=mV (k:=sV ud (k:=?_))))))
   obtain ⟨hk26, h⟩ := ai h
   refine sV (Aj rfl rfl rfl hk26) (k:=sV q_or (k:=aV (k:=?_)))
   refine WR.nil ?_
   change WC _ _ _ _ _ _
   refine WC.region ?_
   refine sV (aC rfl rfl rfl (aP hl16 (hb.cut_from (c := cb) (lo := at_.toNat) (cm hk8) hbc).le)) (k:=mV (k:=?_))
   refine WR.nil ?_
   intro w hw
   exact ⟨hl16, (ior .u64 n_9 (ishl .u64 (wu64 (iand .u8 (((gt (List.drop at_.toNat b) i11).toNat : Nat) : Int) 127)) (w64 (7 * (i11 : Int))))), h, slK, hw, trivial⟩
  have h := hge14 (ige hb15)
  refine WC.exit ?_
  intro w hw
  exact ⟨4, h, slK, hw, iV, trivial⟩
 rintro σ w ⟨e_6, h, hsl, hw, hr7, -⟩
 refine slV hsl hw [] ?_; clear hw hsl
 refine WC.rs (mV (k:=aV (k:=aV (k:=aV (k:=WR.done ?_)))))
 exact WC.ret fun w hw => by obtain rfl := Option.some.inj h; exact ⟨by kernel_rfl, fr_ hF hw⟩
theorem qd {Aparts : Option Addr} {cparts : Nat} {parts : List (List UInt8)} (hparts : Sl (slT av) Γ Aparts parts) (hpartsc : parts.length ≤ cparts) (hs : Sat Γ w0) {r : Int} (h : jv parts = some r) : CQ Tryz.prog 197 #[.slice Aparts parts.length cparts] w0 (.int .u32 r) := by
 refine goQ [2] func197 ntmps197 results197 hs fun F hF => ?_
 refine WC.rs (aV (k:=WR.done (WC.rs (aV (k:=WR.done (WC.seq (WC.rs ?_)))))))
 refine mV (k:=sV (ab rfl underlying76) (k:=mV (k:=WR.done (WC.block ?_))))
 refine WC.forI h (fun (i3 : Nat) (r_1 : Int) σ w => slots σ [(3, .int .u32 r_1), (8, .slice Aparts parts.length cparts), (9, ii (parts.length : Int)), (10, ii (i3 : Int))] ∧ CC F Γ [] w ∧ True) ?_ ?_
 ·
  intro w hw
  exact ⟨slK, hw, trivial⟩
 rintro f2 i3 r_1 σ w hi4 hlt5 hge6 ⟨hsl, hw, -⟩
 refine slV hsl hw [] ?_; clear hw hsl
 refine WC.rs (sV aS (k:=WR.done (WC.seq ?_)))
 refine coV (fun hb7 => ?_) (fun hb7 => ?_)
 ·
  have hl8 := ilt hb7
  have h := hlt5 hl8
  refine WC.skip (wc_ (WC.seq (WC.block (WC.rs (sV (bb (i := i3) underlying76 sizeOf70 rfl rfl rfl hl8 (hparts.some_ hl8)) (k:=?_))))))
  obtain ⟨A9, c10, hx11⟩ := hparts.slT_at i3
  refine sV (q_ld (c := 0) (v := .slice A9 (gt parts i3).length c10) (hx11 hl8).2 rfl isAgg70 rfl rfl) (k:=aV (k:=WR.done (WC.rs (mV (k:=sV (ab rfl underlying70) (k:=mV (k:=WR.done ?_)))))))
  refine WC.block ?_
  refine WC.forI h (fun (i14 : Nat) (r_12 : Int) σ w => slots σ [(3, .int .u32 r_12), (8, .slice Aparts parts.length cparts), (9, ii (parts.length : Int)), (10, ii (i3 : Int)), (14, .slice A9 (gt parts i3).length c10), (15, ii (((gt parts i3).length : Nat) : Int)), (16, ii (i14 : Int))] ∧ CC F Γ [] w ∧ True) ?_ ?_
  ·
   intro w hw
   exact ⟨slK, hw, trivial⟩
  rintro f13 i14 r_12 σ w hi15 hlt16 hge17 ⟨hsl, hw, -⟩
  refine slV hsl hw [] ?_; clear hw hsl
  refine WC.rs (sV aS (k:=WR.done (WC.seq ?_)))
  refine coV (fun hb18 => ?_) (fun hb18 => ?_)
  ·
   have hl19 := ilt hb18
   have h := hlt16 hl19
   refine WC.skip (wc_ (WC.seq (WC.block (WC.rs (sV (bb (i := i14) underlying70 sizeOf5 rfl rfl rfl hl19 ((hx11 hl8).1.2.some_ hl19)) (k:=sV (q_ld (c := 0) (v := .int .u8 (((gt (gt parts i3) i14).toNat : Nat) : Int)) ((hx11 hl8).1.2.byteT_at hl19).2 rfl isAgg5 rfl rfl) (k:=aV (k:=?_))))))))
   refine WR.done (WC.rs (mV (k:=mV (k:=sV (gZ underlying297 underlying5) (k:=sV Ap (k:=aV (k:=WR.done ?_)))))))
   refine WC.rs (mV (k:=WR.done (WC.block ?_)))
   refine WC.forU h (fun (i22 : Nat) (r_20 : Int) σ w => slots σ [(3, .int .u32 r_20), (8, .slice Aparts parts.length cparts), (9, ii (parts.length : Int)), (10, ii (i3 : Int)), (14, .slice A9 (gt parts i3).length c10), (15, ii (((gt parts i3).length : Nat) : Int)), (16, ii (i14 : Int)), (24, ii (i22 : Int))] ∧ CC F Γ [] w ∧ True) ?_ ?_
   ·
    intro w hw
    exact ⟨slK, hw, trivial⟩
   rintro f21 i22 r_20 σ w hi23 hlt24 hge25 ⟨hsl, hw, -⟩
   refine slV hsl hw [] ?_; clear hw hsl
   refine WC.rs (sV aS (k:=WR.done (WC.seq ?_)))
   refine coV (fun hb26 => ?_) (fun hb26 => ?_)
   ·
    have hl27 := ilt hb26
    have h := hlt24 hl27
    refine WC.skip (wc_ (WC.seq (WC.block ?_)))
    refine WC.region ?_
    refine mV (k:=sV (wo rfl rfl rfl (by decide)) (k:=mV (k:=sV xM (k:=sV AB (k:=sV xM (k:=sV Ap (k:=aV (k:=?_))))))))
    refine WR.nil ?_
    change WC _ _ _ _ _ _
    refine WC.region ?_
    refine sV (aC rfl rfl rfl (sT hl27 (by decide))) (k:=mV (k:=?_))
    refine WR.nil ?_
    intro w hw
    exact ⟨hl27, (ixor .u32 (ishr .u32 r_20 1) (iand .u32 3988292384 (wu32 (0 - (iand .u32 r_20 1))))), h, slK, hw, trivial⟩
   have h := hge25 (ige hb26)
   refine WC.exit ?_
   change WC _ _ _ _ _ _
   refine WC.region ?_
   refine sV (aC rfl rfl rfl (aP hl19 (hx11 hl8).1.2.le)) (k:=mV (k:=?_))
   refine WR.nil ?_
   intro w hw
   exact ⟨hl19, r_20, h, slK, hw, trivial⟩
  have h := hge17 (ige hb18)
  refine WC.exit ?_
  change WC _ _ _ _ _ _
  refine WC.region ?_
  refine sV (aC rfl rfl rfl (aP hl8 hparts.le)) (k:=mV (k:=?_))
  refine WR.nil ?_
  intro w hw
  exact ⟨hl8, r_12, h, slK, hw, trivial⟩
 have h := hge6 (ige hb7)
 refine WC.exit ?_
 change WC _ _ _ _ _ _
 refine WC.rs (mV (k:=sV (Cf rfl rfl) (k:=aV (k:=WR.done ?_))))
 exact WC.ret fun w hw => rq_ r h hF hw
abbrev t8 (r : (List UInt8) × Int × Int) (U : List Rowb) (Γ : Gh) (v : Value) : Prop := ∃ (A0 : Option Addr), ∃ (c0 : Nat), ∃ (row0 : Rowb), v = .tuple #[.slice A0 r.1.length c0, .int .i64 r.2.1, .int .i64 r.2.2] ∧ U = [row0] ∧ Own av Γ 5 row0 A0 c0 r.1 ∧ I64 r.2.1 ∧ I64 r.2.2 ∧ True
theorem sK {Ab : Option Addr} {cb : Nat} {b : List UInt8} (hb : Sl av Γ Ab b) (hbc : b.length ≤ cb) (at_ : Int) (hat_ : I64 at_) (hp : Pre [] Γ w0) {r : (List UInt8) × Int × Int} (h : jW b at_ = some r) : Calls Tryz.prog 232 #[.slice Ab b.length cb, ii at_] w0 (Outc Γ [] w0 (t8 r)) := by
 refine goV [4, 5, 6] func232 ntmps232 results232 hp fun F hF => ?_
 refine WC.rs (aV (k:=aV (k:=aV (k:=WR.done (WC.rs (mV (k:=mV (k:=?_))))))))
 obtain ⟨z1, hz2, h⟩ := bnd h
 refine vqV (caV call133) (fun w hw => l9 (Γ := Gh.all w) (hb.mono hw.sat.le_all) hbc at_ hat_ (Sat.all w) hz2) (k:=mV (k:=sV exV (k:=sV exV (k:=sV exV (k:=aV (k:=aV (k:=aV (k:=?_))))))))
 refine WR.done (WC.seq (WC.rs (mV (k:=sV bZ (k:=WR.done ?_)))))
 refine ciV h (fun hb3 h => ?_) (fun hb3 h => ?_)
 ·
  refine WC.rs (mV (k:=aV (k:=aV (k:=aV (k:=WR.done ?_)))))
  refine WC.ret ?_
  intro w hw
  have hw := hw.pad
  obtain ⟨hk4, h⟩ := ai h
  obtain rfl := Option.some.inj h
  subst hF
  exact aO (is := [0]) (by kernel_rfl) hw rfl ⟨none, 0, [], rfl, rfl, (Own.nil av _ 5), iV, (dQ hk4), trivial⟩
 refine WC.skip (wc_ (WC.seq (WC.rs (mV (k:=sV bB (k:=WR.done ?_))))))
 refine ciV h (fun hb5 h => ?_) (fun hb5 h => ?_)
 ·
  refine WC.rs (aV (k:=aV (k:=aV (k:=WR.done ?_))))
  refine WC.ret ?_
  intro w hw
  have hw := hw.pad
  exact re_ r [0] h hF hw ⟨none, 0, [], rfl, rfl, (Own.nil av _ 5), iV, iV, trivial⟩
 refine WC.skip (wc_ (WC.seq (WC.rs (mV (k:=sV (ab rfl underlying70) (k:=mV (k:=sV hQ (k:=?_))))))))
 refine mV (k:=sV eE (k:=sV aS (k:=WR.done ?_)))
 refine ciV h (fun hb6 h => ?_) (fun hb6 h => ?_)
 ·
  refine WC.rs (aV (k:=aV (k:=aV (k:=WR.done ?_))))
  refine WC.ret ?_
  intro w hw
  have hw := hw.pad
  exact re_ r [0] h hF hw ⟨none, 0, [], rfl, rfl, (Own.nil av _ 5), iV, iV, trivial⟩
 refine WC.skip (wc_ (WC.rs (mV (k:=mV (k:=sV eE (k:=mV (k:=sV eE (k:=?_))))))))
 refine mV (k:=sV eE (k:=?_))
 obtain ⟨hk7, h⟩ := ai h
 obtain ⟨hk8, h⟩ := ai h
 obtain ⟨hk9, h⟩ := ai h
 refine sV (yQ (c := cb) (lo := (w64 (z1.2.1 + 4)).toNat) (hi := (w64 ((w64 (z1.2.1 + 4)) + z1.1)).toNat) (xs := b) underlying70 sizeOf5 rfl rfl (yR rfl hk8) (iG rfl hk7) (of_decide_eq_true hk9) (cm hk7) hbc) (k:=aV (k:=WR.done (WC.rs (mV (k:=mV (k:=mV (k:=?_)))))))
 obtain ⟨hk10, h⟩ := ai h
 obtain ⟨hk11, h⟩ := ai h
 obtain ⟨hk12, h⟩ := ai h
 refine sV (yQ (c := cb) (lo := at_.toNat) (hi := z1.2.1.toNat) (xs := b) underlying70 sizeOf5 rfl rfl (yR rfl hk11) (iG rfl hk10) (of_decide_eq_true hk12) (cm hk10) hbc) (k:=mV (k:=?_))
 refine bsV #[.slice (if cb = at_.toNat then Ab else Option.map (fun a => a.add (at_.toNat * 1)) Ab) (List.drop at_.toNat (List.take z1.2.1.toNat b)).length (cb - at_.toNat), .slice (if cb = (w64 (z1.2.1 + 4)).toNat then Ab else Option.map (fun a => a.add (((w64 (z1.2.1 + 4)).toNat) * 1)) Ab) (List.drop ((w64 (z1.2.1 + 4)).toNat) (List.take ((w64 ((w64 (z1.2.1 + 4)) + z1.1)).toNat) b)).length (cb - (w64 (z1.2.1 + 4)).toNat)] 70 fun g13 => ?_
 have ho14 : Own (slT av) Γ 70 [(g13, .cells #[.slice (if cb = at_.toNat then Ab else Option.map (fun a => a.add (at_.toNat * 1)) Ab) (List.drop at_.toNat (List.take z1.2.1.toNat b)).length (cb - at_.toNat), .slice (if cb = (w64 (z1.2.1 + 4)).toNat then Ab else Option.map (fun a => a.add (((w64 (z1.2.1 + 4)).toNat) * 1)) Ab) (List.drop ((w64 (z1.2.1 + 4)).toNat) (List.take ((w64 ((w64 (z1.2.1 + 4)) + z1.1)).toNat) b)).length (cb - (w64 (z1.2.1 + 4)).toNat)] 70 (0, 0))] (some ⟨g13, 0, none⟩) 2 [(List.drop at_.toNat (List.take z1.2.1.toNat b)), (List.drop ((w64 (z1.2.1 + 4)).toNat) (List.take ((w64 ((w64 (z1.2.1 + 4)) + z1.1)).toNat) b))] := Own.of_blockL (T := (slT av)) (ys := [(List.drop at_.toNat (List.take z1.2.1.toNat b)), (List.drop ((w64 (z1.2.1 + 4)).toNat) (List.take ((w64 ((w64 (z1.2.1 + 4)) + z1.1)).toNat) b))]) [[.slice (if cb = at_.toNat then Ab else Option.map (fun a => a.add (at_.toNat * 1)) Ab) (List.drop at_.toNat (List.take z1.2.1.toNat b)).length (cb - at_.toNat)], [.slice (if cb = (w64 (z1.2.1 + 4)).toNat then Ab else Option.map (fun a => a.add (((w64 (z1.2.1 + 4)).toNat) * 1)) Ab) (List.drop ((w64 (z1.2.1 + 4)).toNat) (List.take ((w64 ((w64 (z1.2.1 + 4)) + z1.1)).toNat) b)).length (cb - (w64 (z1.2.1 + 4)).toNat)]] rfl (show 2 ≤ lim by decide) ⟨⟨(if cb = at_.toNat then Ab else Option.map (fun a => a.add (at_.toNat * 1)) Ab), (cb - at_.toNat), rfl, (tF hbc at_.toNat z1.2.1.toNat), (hb.cut (cap := cb) (lo := at_.toNat) (hi := z1.2.1.toNat) (of_decide_eq_true hk12) (cm hk10) hbc)⟩, ⟨(if cb = (w64 (z1.2.1 + 4)).toNat then Ab else Option.map (fun a => a.add (((w64 (z1.2.1 + 4)).toNat) * 1)) Ab), (cb - (w64 (z1.2.1 + 4)).toNat), rfl, (tF hbc ((w64 (z1.2.1 + 4)).toNat) ((w64 ((w64 (z1.2.1 + 4)) + z1.1)).toNat)), (hb.cut (cap := cb) (lo := (w64 (z1.2.1 + 4)).toNat) (hi := (w64 ((w64 (z1.2.1 + 4)) + z1.1)).toNat) (of_decide_eq_true hk9) (cm hk7) hbc)⟩, trivial⟩
 obtain ⟨z15, hz16, h⟩ := bnd h
 refine vqV (caV call197) (fun w hw => qd (Γ := Gh.all w) (ho14.sl hw.sat.le_all (hw.ra 0 rfl)) ho14.capz (Sat.all w) hz16) (k:=aV (k:=WR.done (WC.seq (WC.rs (mV (k:=WR.done (WC.block ?_)))))))
 refine WC.forU h (fun (i18 : Nat) (s : Unit) σ w => match s with | () => slots σ [(0, .slice Ab b.length cb), (7, ii z1.1), (8, ii z1.2.1), (10, .slice (if cb = (w64 (z1.2.1 + 4)).toNat then Ab else Option.map (fun a => a.add (((w64 (z1.2.1 + 4)).toNat) * 1)) Ab) (List.drop ((w64 (z1.2.1 + 4)).toNat) (List.take ((w64 ((w64 (z1.2.1 + 4)) + z1.1)).toNat) b)).length (cb - (w64 (z1.2.1 + 4)).toNat)), (11, .int .u32 z15), (47, ii (i18 : Int))] ∧ CC F Γ [] w ∧ True) ?_ ?_
 ·
  intro w hw
  exact ⟨slK, (hw.on []), trivial⟩
 rintro f17 i18 ⟨⟩ σ w hi19 hlt20 hge21 ⟨hsl, hw, -⟩
 refine slV hsl hw [] ?_; clear hw hsl
 refine WC.rs (sV aS (k:=WR.done (WC.seq ?_)))
 refine coV (fun hb22 => ?_) (fun hb22 => ?_)
 ·
  have hl23 := ilt hb22
  have h := hlt20 hl23
  refine WC.skip (wc_ (WC.seq (WC.block (WC.rs (mV (k:=aV (k:=WR.done ?_)))))))
  refine WC.seq ?_
  refine drV ?_
  refine zV moV (k:=zV moV (k:=zV moV (k:=zV eE (k:=?_))))
  obtain ⟨hk24, h⟩ := ai h
  refine zV (q_ix underlying70 sizeOf5 rfl rfl rfl hk24 (hb.some_ (bG hk24))) (k:=zV (q_ld (c := 0) (v := .int .u8 (((gt b ((w64 (z1.2.1 + (i18 : Int))).toNat)).toNat : Nat) : Int)) (hb.byteT_at (bG hk24)).2 rfl isAgg5 rfl rfl) (k:=zV moV (k:=zV moV (k:=zV ud (k:=?_)))))
  obtain ⟨hk25, h⟩ := ai h
  refine zV (wo rfl rfl rfl hk25) (k:=zV (gZ underlying5 underlying297) (k:=zV bZ (k:=?_)))
  refine WQ.nil ?_
  change WC _ _ _ _ _ _
  refine ciV h (fun hb26 h => ?_) (fun hb26 h => ?_)
  ·
   refine WC.rs (aV (k:=aV (k:=aV (k:=WR.done ?_))))
   refine WC.ret ?_
   intro w hw
   have hw := hw.pad
   exact re_ r [0] h hF hw ⟨none, 0, [], rfl, rfl, (Own.nil av _ 5), iV, iV, trivial⟩
  refine WC.skip (wc_ ?_)
  refine WC.region ?_
  refine sV (aC rfl rfl rfl (sT hl23 (by decide))) (k:=mV (k:=?_))
  refine WR.nil ?_
  intro w hw
  exact ⟨hl23, (), h, slK, hw, trivial⟩
 have h := hge21 (ige hb22)
 refine WC.exit ?_
 change WC _ _ _ _ _ _
 refine WC.rs ?_
 refine bsV #[] 5 fun g27 => ?_
 refine mV (k:=?_)
 have ho28 : Own av Γ 5 [(g27, .cells #[] 5 (0, 0))] (some ⟨g27, 0, none⟩) 0 ([] : List UInt8) := Own.of_blockL (T := av) (ys := ([] : List UInt8)) [] rfl (show 0 ≤ lim by decide) (show True from trivial)
 obtain ⟨hk29, h⟩ := ai h
 refine apV 0 ((List.drop ((w64 (z1.2.1 + 4)).toNat) (List.take ((w64 ((w64 (z1.2.1 + 4)) + z1.1)).toNat) b))) gT ho28 (of_decide_eq_true hk29) (fun w hw => mv (hb.cut (cap := cb) (lo := (w64 (z1.2.1 + 4)).toNat) (hi := (w64 ((w64 (z1.2.1 + 4)) + z1.1)).toNat) (of_decide_eq_true hk9) (cm hk7) hbc) hw) ?_
 intro row30 A31 c32 ho33
 refine mV (k:=sV eE (k:=mV (k:=sV eE (k:=aV (k:=aV (k:=aV (k:=WR.done ?_)))))))
 exact WC.ret fun w hw => re_ r [0] h hF hw ⟨A31, c32, row30, rfl, rfl, ho33, (iA _), iV, trivial⟩
abbrev pV (J : Gh → Rowb → ao → Prop) (lY : Nat) (gb0 : Nat) (Ab0v : Option Addr) (cb0v : Nat) (b0v : List UInt8) (gb1 : Nat) (gb1v : Nat) (b1v : Int) (r : ao × Int) (U : List Rowb) (Γ : Gh) (v : Value) : Prop := ∃ (rowsY' : Rowb), v = .tuple #[] ∧ U = [rowsY', [(gb0, .cells #[.slice Ab0v b0v.length cb0v] 70 (0, 0))], [(gb1, .cells #[.pointer (some ⟨gb1v, 0, none⟩)] 284 (0, 0))], [(gb1v, .cells #[.int .i64 r.2] 28 (0, 0))]] ∧ ao.ob J Γ lY rowsY' r.1 ∧ I64 r.2 ∧ True
theorem pi {J : Gh → Rowb → ao → Prop} {Y : ao → List UInt8 → Int → Option ao} {lY : Nat} (hY : ∀ {Γ : Gh} {w : World} {row : Rowb} {s s' : ao} {Ay0_ : Option Addr} {cy0_ : Nat} {y0_ : List UInt8} (hy0_ : Sl av Γ Ay0_ y0_) (hy0_c : y0_.length ≤ cy0_) (y1_ : Int) (hy1_ : I64 y1_) (hs : ao.ob J Γ lY row s) (hp : Pre [row] Γ w) (h : Y s y0_ y1_ = some s'), YieldAt (FR none) 0 Tryz.prog lY #[.slice Ay0_ y0_.length cy0_, ii y1_] w (Outc Γ [row] w fun U Δ v => ∃ row' : Rowb, v = .bool true ∧ U = [row'] ∧ ao.ob J Δ lY row' s')) {rowsY : Rowb} {sY : ao} (hsY : ao.ob J Γ lY rowsY sY) {gb0 : Nat} {Ab0v : Option Addr} {cb0v : Nat} {b0v : List UInt8} (hb0v : Sl av Γ Ab0v b0v) (hb0vc : b0v.length ≤ cb0v) {gb1 : Nat} {gb1v : Nat} (b1v : Int) (hb1v : I64 b1v) (hp : Pre [rowsY, [(gb0, .cells #[.slice Ab0v b0v.length cb0v] 70 (0, 0))], [(gb1, .cells #[(pq gb1v)] 284 (0, 0))], [(gb1v, .cells #[ii b1v] 28 (0, 0))]] Γ w0) {r : ao × Int} (h : j8 Y sY b0v b1v = some r) : Calls Tryz.prog 231 #[.func (.yield lY) #[] #[], (pq gb0), (pq gb1)] w0 (Outc Γ [rowsY, [(gb0, .cells #[.slice Ab0v b0v.length cb0v] 70 (0, 0))], [(gb1, .cells #[(pq gb1v)] 284 (0, 0))], [(gb1v, .cells #[ii b1v] 28 (0, 0))]] w0 (pV J lY gb0 Ab0v cb0v b0v gb1 gb1v b1v r)) := by
 refine goV [] func231 ntmps231 results231 hp fun F hF => ?_
 refine WC.rs (aV (k:=WR.done (WC.block ?_)))
 refine WC.loopN h (fun (s : Int × Int × ao) σ w => match s with | (at_3, x5, o7) => ∃ (Γ1 : Gh), ∃ (row8 : Rowb), slots σ [(0, .func (.yield lY) #[] #[]), (1, (pq gb0)), (2, (pq gb1)), (4, ii at_3)] ∧ CC F Γ1 [row8, [(gb0, .cells #[.slice Ab0v b0v.length cb0v] 70 (0, 0))], [(gb1, .cells #[(pq gb1v)] 284 (0, 0))], [(gb1v, .cells #[ii x5] 28 (0, 0))]] w ∧ Gh.le Γ Γ1 ∧ I64 at_3 ∧ I64 x5 ∧ ao.ob J Γ1 lY row8 o7 ∧ True) ?_ ?_
 ·
  intro w hw
  exact ⟨Γ, rowsY, slK, hw, gR, iV, hb1v, hsY, trivial⟩
 rintro f10 ⟨at_3, x5, o7⟩ σ w h ⟨Γ1, row8, hsl, hw, hl2, hr4, hr6, ho9, -⟩
 refine slV hsl hw [_, _, _, _] ?_; clear hw hsl
 refine WC.seq (WC.rs (mV (k:=sV (ldV 1 isAgg70) (k:=sV (ab rfl underlying70) (k:=sV aS (k:=WR.done ?_))))))
 refine ciV h (fun hb14 h => ?_) (fun hb14 h => ?_)
 ·
  refine WC.skip (wc_ (WC.block (WC.rs (sV (ldV 1 isAgg70) (k:=mV (k:=?_))))))
  obtain ⟨z15, hz16, h⟩ := bnd h
  refine ecV [] (caV call232) (fun w hp => sK (hb0v.mono hl2) hb0vc at_3 hr4 hp hz16) ?_
  rintro Γ17 _ _ hl18 ⟨A21, c22, row23, rfl, rfl, hr24, hr25, hr26, _⟩
  refine cwV 15 [_, _, _, _, _] (mV (k:=sV exV (k:=sV exV (k:=sV exV (k:=aV (k:=aV (k:=aV (k:=?_))))))))
  refine WR.done (WC.rs (sV (ldV 3 isAgg284) (k:=mV (k:=sV nlV (k:=stV 4 (ii z15.2.2) #[ii z15.2.2] sizeOf28 (k:=WR.done (WC.seq ?_)))))))
  refine WC.seq ?_
  refine WC.ofI (WCI.region ?_)
  refine WI.op (fun _ h => nomatch h) ?_
  refine mV (k:=?_)
  refine WI.nx ?_
  refine WI.op (fun _ h => nomatch h) ?_
  refine sV bZ (k:=?_)
  refine WI.nx ?_
  refine WI.op (fun _ h => nomatch h) ?_
  refine mV (k:=?_)
  refine WI.nx ?_
  refine WI.op (fun _ h => nomatch h) ?_
  refine vG0 (h:=fun hg27 => ay (v := .func (.yield lY) #[] #[]) rfl (by kernel_rfl)) (k:=?_)
  refine WI.nx ?_
  refine WI.op (fun _ h => nomatch h) ?_
  refine vG0 (h:=fun hg28 => moV) (k:=?_)
  refine WI.nx ?_
  refine WI.op (fun _ h => nomatch h) ?_
  refine vG0 (h:=fun hg29 => moV) (k:=?_)
  refine WI.nx ?_
  refine (Bool.eq_false_or_eq_true (!(z15.2.2 != 0))).elim (fun hb30 => ?_) (fun hb30 => ?_)
  ·
   have h := bt hb30 h
   refine WI.sat (c0 := true) (g := (z15.2.2 != 0)) rfl rfl rfl hb30 ?_
   have hc35 := hr24.capz
   intro w hw; obtain ⟨Γ31, hw, hl32, hr33⟩ := hw.seal (i := 0) rfl; have hs34 := hr24.sl hl32 hr33
   refine WI.here (C := CC F Γ31 [[], row8, [(gb0, .cells #[.slice Ab0v b0v.length cb0v] 70 (0, 0))], [(gb1, .cells #[(pq gb1v)] 284 (0, 0))], [(gb1v, .cells #[ii z15.2.2] 28 (0, 0))]]) ?_ hw
   clear hw
   obtain ⟨z36, hz37, h⟩ := bnd h
   refine WI.yield (is := [1]) rfl rfl (fun _ h => nomatch h) (sd rfl (grV hb30) (fh (grV hb30) (grV hb30))) rfl (fun w hp => hY hs34 hc35 z15.2.1 hr25 (ho9.mono (hl18.trans hl32)) hp hz37) ?_
   rintro Γ38 _ _ hl39 ⟨row42, rfl, rfl, hr43⟩
   change WI _ _ _ _ (CC F Γ38 [row42, [], [(gb0, .cells #[.slice Ab0v b0v.length cb0v] 70 (0, 0))], [(gb1, .cells #[(pq gb1v)] 284 (0, 0))], [(gb1v, .cells #[ii z15.2.2] 28 (0, 0))]]) _ _ (upd _ 28 (.bool true))
   refine WI.sat (c0 := true) (g := (z15.2.2 != 0)) rfl rfl rfl hb30 ?_
   refine WI.op (fun _ h => nomatch h) ?_
   refine sV bu (k:=?_)
   refine WI.nx ?_
   refine WI.op (fun _ h => nomatch h) ?_
   refine sV (dK (v := .bool (!true)) rfl rfl (qV hb30) (by kernel_rfl)) (k:=?_)
   refine WI.nx ?_
   refine WI.nil ?_
   change WC _ _ _ _ _ _
   refine WC.cfk (b := (!true)) (by kernel_rfl) (nott rfl) ?_
   refine WC.skip (wc_ ?_)
   refine WC.region ?_
   refine mV (k:=aV (k:=?_))
   refine WR.nil ?_
   intro w hw
   exact ⟨(z15.2.1, z15.2.2, z36), h, Γ38, row42, slK, (hw.on [0, 1, 1, 1]), (((hl2.trans hl18).trans hl32).trans hl39), hr25, hr26, hr43, trivial⟩
  have h := bf hb30 h
  refine WI.op (fun _ h => nomatch h) ?_
  refine WR.unsat (c0 := true) (g := (z15.2.2 != 0)) rfl rfl rfl hb30 rfl ?_
  refine WI.nx ?_
  refine WI.op (fun _ h => nomatch h) ?_
  refine WR.unsat (c0 := true) (g := (z15.2.2 != 0)) rfl rfl rfl hb30 rfl ?_
  refine WI.nx ?_
  refine WI.op (fun _ h => nomatch h) ?_
  refine sV (eh (v := .bool true) rfl rfl (qP hb30) (by kernel_rfl)) (k:=?_)
  refine WI.nx ?_
  refine WI.nil ?_
  change WC _ _ _ _ _ _
  refine WC.ctk (b := true) (by kernel_rfl) rfl ?_
  exact WC.ret fun w hw => re_ r [1, 1, 1, 1] h hF hw ⟨row8, rfl, rfl, (ho9.mono hl18), hr26, trivial⟩
 refine WC.exit ?_
 intro w hw
 obtain rfl := Option.some.inj h
 subst hF
 exact aO (is := [0, 0, 0, 0]) (by kernel_rfl) hw rfl ⟨row8, rfl, rfl, ho9, hr6, trivial⟩
def JAll (l gout gat : Nat) (rec : Loop) (Γ : Gh) (row : Rowb) (s : ao) : Prop := ∃ (A : Option Addr) (c : Nat) (rowo : Rowb), row = ([[(l, .loop rec)], [(gout, .cells #[.slice A s.1.length c] 76 (0, 0))], [(gat, .cells #[.int .i64 s.2] 3 (0, 0))], rowo] : List Rowb).flatten ∧ Own (slT av) Γ 70 rowo A c s.1 ∧ I64 s.2
theorem ri {A : Option Addr} {c : Nat} {b : List UInt8} (ge : Nat) (hp : Pre [] Γ w0) : Calls Tryz.prog 184 #[.slice A b.length c, (pq ge)] w0 (Outc Γ [] w0 (fun U Δ v => ∃ g1 g2 : Nat, v = .func (.func 231) #[] #[(pq g1), (pq g2)] ∧ U = [[(g1, .cells #[.slice A b.length c] 70 (0, 0))], [(g2, .cells #[(pq ge)] 284 (0, 0))]])) := by
 refine goV [4] func184 ntmps184 results184 hp fun F hF => ?_
 refine WC.rs ?_
 refine bxV (v := .slice A b.length c) fun g1 => ?_
 refine bxV (v := (pq ge)) fun g2 => ?_
 refine aU (v := .nilFunc) (k:=?_)
 refine WR.nil ?_
 change WC _ _ _ _ _ _
 refine WC.rs (sV (jP (v := .func (.func 231) #[] #[(pq g1), (pq g2)]) rfl (by kernel_rfl)) (k:=aU (v := .func (.func 231) #[] #[(pq g1), (pq g2)]) (k:=?_)))
 refine WR.nil ?_
 change WC _ _ _ _ _ _
 refine WC.ret ?_
 intro w hw
 subst hF
 exact aO (is := [1, 0]) (by kernel_rfl) hw rfl ⟨g1, g2, rfl, rfl⟩
abbrev u4 (r : List (List UInt8) × Int × Int) (U : List Rowb) (Γ : Gh) (v : Value) : Prop := ∃ (A0 : Option Addr), ∃ (c0 : Nat), ∃ (row0 : Rowb), v = .tuple #[.slice A0 r.1.length c0, .int .i64 r.2.1, .int .i64 r.2.2] ∧ U = [row0] ∧ Own (slT av) Γ 70 row0 A0 c0 r.1 ∧ I64 r.2.1 ∧ I64 r.2.2 ∧ True
set_option maxRecDepth 100000 in
set_option maxHeartbeats 800000 in
theorem qi {Γ : Gh} {w0 : World} {Ab : Option Addr} {cb : Nat} {b : List UInt8} (hb : Sl av Γ Ab b) (hbc : b.length ≤ cb) (hp : Pre [] Γ w0) {r : List (List UInt8) × Int × Int} (h : jx b = some r) : Calls Tryz.prog 132 #[.slice Ab b.length cb] w0 (Outc Γ [] w0 (u4 r)) := by
 obtain ⟨z, hz, h⟩ := bnd h
 obtain rfl := Option.some.inj h
 refine sv (n := 22) (rs := [2, 3, 4]) (args := [.slice Ab b.length cb]) func132 rfl ntmps132 results132 rfl ?_
 obtain ⟨F, hF⟩ : ∃ F : Fm, F = ⟨ids [], w0, Γ⟩ := ⟨_, rfl⟩
 refine WC2.here (C := CC F Γ []) ?_ (hF ▸ hp.start)
 refine WC2.seq ?_
 refine WC.region ?_
 refine aV (k:=aV (k:=aV (k:=?_)))
 refine WR.nil ?_
 change WC2 _ _ _ _ _ _
 refine WC2.seq ?_
 refine WC.region ?_
 refine alV zeroValue76 fun gout => ?_
 refine WR.nil ?_
 change WC2 _ _ _ _ _ _
 refine WC2.seq ?_
 refine WC.region ?_
 refine alV zeroValue28 fun ge => ?_
 refine WR.nil ?_
 change WC2 _ _ _ _ _ _
 refine WC2.seq ?_
 refine WC.region ?_
 refine alV zeroValue3 fun gat => ?_
 refine stV 0 (ii 0) #[ii 0] sizeOf3 (k:=?_)
 refine WR.nil ?_
 change WC2 _ _ _ _ _ _
 refine WC2.seq3 ?_
 refine WC.region ?_
 refine mV (k:=?_)
 refine ecV [] (caV call184) (fun w hp => ri (A := Ab) (c := cb) (b := b) ge hp) ?_
 rintro Γ1 _ _ hl1 ⟨g1, g2, rfl, rfl⟩
 refine cwV 11 [_, _, _, _, _] ?_
 refine WR.nil ?_
 change WC3 _ _ _ _ _ _ _
 refine WC3.rangeF (n := 22) (gf := 231) (lb := #[(pq g1), (pq g2)]) (by kernel_rfl) call231 ?_
 intro l D rec w hst hpe hps has hbo hagr hw
 have hY : ∀ {Γ : Gh} {w : World} {row : Rowb} {s s' : ao} {Ay0_ : Option Addr} {cy0_ : Nat} {y0_ : List UInt8} (hy0_ : Sl av Γ Ay0_ y0_) (hy0_c : y0_.length ≤ cy0_) (y1_ : Int) (hy1_ : I64 y1_) (hs : ao.ob (JAll l gout gat rec) Γ l row s) (hp : Pre [row] Γ w) (h : eA s y0_ y1_ = some s'),
   YieldAt (FR none) 0 Tryz.prog l #[.slice Ay0_ y0_.length cy0_, ii y1_] w (Outc Γ [row] w fun U Δ v => ∃ row' : Rowb, v = .bool true ∧ U = [row'] ∧ ao.ob (JAll l gout gat rec) Δ l row' s') := by
  intro Γ w row s s' A c y0 h0 h0c y1 h1 hs hp h
  obtain ⟨hk, h⟩ := ai h
  obtain rfl := Option.some.inj h
  obtain ⟨Γ', hle, Ao, co, rowo, rfl, ho, hi⟩ := hs
  have ho := ho.mono hle
  refine YieldAt.mono (R := Outc Γ [[(l, .loop rec)], [(gout, .cells #[.slice Ao s.1.length co] 76 (0, 0))], [(gat, .cells #[ii s.2] 3 (0, 0))], rowo] w fun U Δ v => ∃ A2 c2 row2, v = .bool true ∧ U = [[(l, .loop rec)], [(gout, .cells #[.slice A2 (s.1 ++ [y0]).length c2] 76 (0, 0))], [(gat, .cells #[ii y1] 3 (0, 0))], row2] ∧ Own (slT av) Δ 70 row2 A2 c2 (s.1 ++ [y0])) ?_ ?_
  ·
   refine tR has hbo hp.parts hst hpe (by rw [hps]; rfl) (N := ⟨22, []⟩) (σ1 := _) (by rw [hps]; exact hagr.par2 rfl rfl) ?_
   intro F hF
   refine WCI.rs ?_
   refine WI.op (fun _ h => nomatch h) ?_
   refine aV (k:=?_)
   refine WI.nx ?_
   refine WI.done ?_
   refine WCI.region ?_
   refine WI.op (fun _ h => nomatch h) ?_
   refine aV (k:=?_)
   refine WI.nx ?_
   refine WI.nil ?_
   intro w hw
   refine ⟨Γ, _, hw, ?_⟩
   refine WCI.block ?_
   refine WCI.rs ?_
   refine WI.op (fun _ h => nomatch h) ?_
   refine sV (ldV 1 isAgg76) (k:=?_)
   refine WI.nx ?_
   refine WI.op (fun _ h => nomatch h) ?_
   refine mV (k:=?_)
   refine WI.nx ?_
   refine WI.op (fun _ h => nomatch h) ?_
   refine bsV #[.slice A y0.length c] 70 fun gb => ?_
   refine WI.nx ?_
   refine WI.op (fun _ h => nomatch h) ?_
   refine apV 4 [y0] vN ho (of_decide_eq_true hk) (fun w hw => dR (i := 0) rfl (by exact ⟨A, c, rfl, h0c, h0⟩) hw) ?_
   intro row2 A2 c2 ho2
   refine WI.nx ?_
   refine WI.op (fun _ h => nomatch h) ?_
   refine stV 2 (.slice A2 (s.1 ++ [y0]).length c2) #[.slice A2 (s.1 ++ [y0]).length c2] sizeOf76 (k:=?_)
   refine WI.nx ?_
   refine WI.done ?_
   refine WCI.region ?_
   refine WI.op (fun _ h => nomatch h) ?_
   refine mV (k:=?_)
   refine WI.nx ?_
   refine WI.op (fun _ h => nomatch h) ?_
   refine stV 3 (ii y1) #[ii y1] sizeOf3 (k:=?_)
   refine WI.nx ?_
   refine WI.nil ?_
   intro w hw
   exact ⟨Γ, _, hw.on [1, 1, 1, 1], A2, c2, row2, rfl, rfl, ho2⟩
  rintro e w2 ⟨v, rfl, Δ, U, he, A2, c2, row2, rfl, rfl, ho2⟩
  exact ⟨_, rfl, Δ, _, he.glue, _, rfl, rfl, YS.of ⟨A2, c2, row2, rfl, ho2, h1⟩⟩
 have hw := hw.pad
 have h2 := hw.fold (is := [1, 6, 4, 0]) rfl rfl
 have h3 : Cur F Γ1 ([([[(l, .loop rec)], [(gout, .cells #[.slice none 0 0] 76 (0, 0))], [(gat, .cells #[ii 0] 3 (0, 0))], []] : List Rowb).flatten, [(g1, .cells #[.slice Ab b.length cb] 70 (0, 0))], [(g2, .cells #[(pq ge)] 284 (0, 0))], [(ge, .cells #[ii 0] 28 (0, 0))]] ++ [[(D, .deferred (some []))]]) w := h2.pick (is := [0, 1, 1, 1]) rfl
 refine (pi (J := JAll l gout gat rec) (Y := eA) (lY := l) (sY := ([], 0)) hY (YS.of ⟨none, 0, [], rfl, Own.nil _ _ _, show I64 0 by decide⟩) (hb.mono hl1) hbc 0 iV (h2.only (is := [0, 1, 1, 1]) rfl).pre hz).mono ?_
 rintro e w' ⟨v, rfl, Δ, U', he, rowY', rfl, rfl, hJ', he2, -⟩
 have h4 := h3.eff he
 obtain ⟨Γ', hle, A', c', rowo', hrow, ho', hi'⟩ := hJ'
 have h5 := h4.unfold (i := 0) rfl hrow
 refine ⟨_, rfl, Δ, [[(gout, .cells #[.slice A' z.1.1.length c'] 76 (0, 0))], [(gat, .cells #[ii z.1.2] 3 (0, 0))], rowo', [(ge, .cells #[ii z.2] 28 (0, 0))]], h5.only (is := [0, 6, 0, 0, 0, 2]) rfl, ?_⟩
 refine WC2.of ?_
 refine WC.seq ?_
 refine drV ?_
 refine zV (ldV 1 isAgg76) (k:=zV (ldV 2 isAgg3) (k:=zV (ldV 4 isAgg28) (k:=zV aoV (k:=zV aoV (k:=zV aoV (k:=?_))))))
 refine WQ.nil ?_
 change WC _ _ _ _ _ _
 refine WC.ret ?_
 intro w hw
 subst hF
 exact Am (N := ⟨22, []⟩) (is := [2]) (by kernel_rfl) hw rfl ⟨A', c', rowo', rfl, rfl, ho'.mono hle, hi', he2, trivial⟩
abbrev r_seglog_place_holds (edk0 : Nat) (gp__0 : Nat) (rowdk0 : Rowb) (r : Int × Int × Int) (U : List Rowb) (Γ : Gh) (v : Value) : Prop := v = .tuple #[.int .i64 r.1, .int .i64 r.2.1, .int .i64 r.2.2] ∧ U = [rowdk0] ∧ I64 r.1 ∧ I64 r.2.1 ∧ I64 r.2.2 ∧ True
theorem t_seglog_place_holds {gp__0 : Nat} (p__1 : ByteArray) (hp__1 : p__1.size ≤ lim) (p__2 : Int) (hp__2 : I64 p__2) {edk0 : Nat} {rowdk0 : Rowb} {dk0 : a7} (hdk0 : a7.ob edk0 Γ gp__0 rowdk0 dk0) (hp : Pre [rowdk0] Γ w0) {r : Int × Int × Int} (h : m_seglog_place_holds p__1 p__2 dk0 = some r) : Calls Tryz.prog 63 #[.agg #[(pq gp__0), .string p__1, ii p__2]] w0 (Outc Γ [rowdk0] w0 (r_seglog_place_holds edk0 gp__0 rowdk0 r)) := by
 refine goV [2, 3, 4] func63 ntmps63 results63 hp fun F hF => ?_
 refine WC.rs ?_
 refine bxV (v := .agg #[(pq gp__0), .string p__1, ii p__2]) fun g1 => ?_
 refine aV (k:=aV (k:=aV (k:=WR.done (WC.seq ?_))))
 refine leV fun h02 => ?_
 refine eD (CC F Γ [[(g1, .cells #[(pq gp__0), .string p__1, ii p__2] 148 (0, 0))]]) (bo_ [0] gR h02) fun k => ?_
 change WH _ _ _ _ (CC F Γ [_, _]) _ 10 _ _
 refine hV 0 k (q:=q_fl 0 iw) (k:=hV 1 k (q:=ldV 0 isAgg31) (k:=hV 2 k (q:=ldaV 0 [(pq gp__0), .string p__1, ii p__2] isAgg148 sizeOf148) (k:=wl_ 3 rfl ?_)))
 obtain ⟨z3, hz4, h⟩ := bnd h
 refine vqV (caV call66) (fun w hw => jU (Γ := Gh.all w) (gp__0 := gp__0) p__1 hp__1 p__2 hp__2 (Sat.all w) hz4) (k:=?_)
 refine WR.nil (nxV (bo_ [0] gR h02) fun k => ?_)
 refine wl_ 4 rfl ?_
 obtain ⟨hk5, h⟩ := ai h
 obtain ⟨z6, hz7, h⟩ := bnd h
 refine ecV [1] (caV call131) (fun w hp => jd hdk0 z3 (of_decide_eq_true hk5) hp hz7) ?_
 rintro Γ8 _ _ hl9 ⟨A12, c13, row14, rfl, rfl, hr15, _⟩
 refine cwV 21 [_, _, _] ?_
 refine WR.nil (nxV (bo_ [2] hl9 h02) fun k => ?_)
 refine hV 5 k (q:=moV) (k:=hV 6 k (q:=exV) (k:=hV 7 k (q:=exV) (k:=hV 8 k (q:=aoV) (k:=hV 9 k (q:=aoV) (k:=?_)))))
 refine WH.done (by kernel_rfl) ?_
 change WC _ _ _ _ _ _
 refine WC.rs (mV (k:=?_))
 have hc20 := hr15.capz
 refine seR 1 [_, _, _] fun Γ16 hl17 hr18 => ?_
 have hs19 := hr15.sl hl17 hr18
 obtain ⟨z21, hz22, h⟩ := bnd h
 refine ecV [] (caV call132) (fun w hp => qi hs19 hc20 hp hz22) ?_
 rintro Γ23 _ _ hl24 ⟨A27, c28, row29, rfl, rfl, hr30, hr31, hr32, _⟩
 refine cwV 26 [_, _, _, _] (mV (k:=sV exV (k:=sV exV (k:=sV exV (k:=aV (k:=aV (k:=aV (k:=?_))))))))
 refine WR.done (WC.rs (aV (k:=WR.done (WC.seq (WC.rs (mV (k:=sV (ab rfl underlying76) (k:=?_))))))))
 refine mV (k:=WR.done (WC.block ?_))
 refine WC.forI h (fun (i35 : Nat) (gen_33 : Int) σ w => slots σ [(8, ii z21.2.1), (10, ii gen_33), (30, .slice A27 z21.1.length c28), (31, ii (z21.1.length : Int)), (32, ii (i35 : Int))] ∧ CC F Γ23 [row29, rowdk0] w ∧ True) ?_ ?_
 ·
  intro w hw
  exact ⟨slK, (hw.on [0, 0]), trivial⟩
 rintro f34 i35 gen_33 σ w hi36 hlt37 hge38 ⟨hsl, hw, -⟩
 refine slV hsl hw [_, _] ?_; clear hw hsl
 refine WC.rs (sV aS (k:=WR.done (WC.seq ?_)))
 refine coV (fun hb39 => ?_) (fun hb39 => ?_)
 ·
  have hl40 := ilt hb39
  have h := hlt37 hl40
  refine WC.skip (wc_ (WC.seq (WC.block (WC.rs (sV (bb (i := i35) underlying76 sizeOf70 rfl rfl rfl hl40 (hr30.some_ hl40)) (k:=?_))))))
  obtain ⟨A41, c42, hx43⟩ := hr30.slT_at i35
  refine sV (qf (c := 0) (v := .slice A41 (gt z21.1 i35).length c42) (i := 0) rfl (hx43 hl40).2 rfl isAgg70 rfl rfl) (k:=aV (k:=WR.done (WC.rs (mV (k:=?_)))))
  obtain ⟨z44, hz45, h⟩ := bnd h
  refine vqV (caV call133) (fun w hw => l9 (Γ := Gh.all w) ((hx43 hl40).1.2.mono hw.sat.le_all) (hx43 hl40).1.1 0 iV (Sat.all w) hz45) (k:=mV (k:=sV exV (k:=sV exV (k:=sV exV (k:=aV (k:=aV (k:=aV (k:=?_))))))))
  refine WR.done (WC.seq (WC.rs (mV (k:=sV bZ (k:=mV (k:=vG0 (h:=fun hg46 => moV) (k:=vG0 (h:=fun hg47 => moV) (k:=?_))))))))
  refine vG0 (h:=fun hg48 => ab rfl underlying70 (grV hg48)) (k:=vG0 (h:=fun hg49 => bZ rfl (grV hg49) (grV hg49)) (k:=sV pkO (k:=mV (k:=vG0 (h:=fun hg50 => moV) (k:=vG0 (h:=fun hg51 => aS rfl (grV hg51)) (k:=sV pkO (k:=mV (k:=?_))))))))
  refine vG0 (h:=fun hg52 => moV) (k:=vG0 (h:=fun hg53 => bB rfl (grV hg53)) (k:=sV pkO (k:=WR.done ?_)))
  refine ciV h (fun hb54 h => ?_) (fun hb54 h => ?_)
  ·
   refine WC.rs (aV (k:=aV (k:=aV (k:=WR.done ?_))))
   exact WC.ret fun w hw => re_ r [1] h hF hw ⟨rfl, rfl, iV, iV, iV, trivial⟩
  refine WC.skip (wc_ ?_)
  refine WC.region ?_
  refine mV (k:=aV (k:=?_))
  refine WR.nil ?_
  change WC _ _ _ _ _ _
  refine WC.region ?_
  refine sV (aC rfl rfl rfl (aP hl40 hr30.le)) (k:=mV (k:=?_))
  refine WR.nil ?_
  intro w hw
  exact ⟨hl40, z44.1, h, slK, hw, trivial⟩
 have h := hge38 (ige hb39)
 refine WC.exit ?_
 change WC _ _ _ _ _ _
 refine WC.rs (mV (k:=mV (k:=aV (k:=aV (k:=aV (k:=WR.done ?_))))))
 refine WC.ret ?_
 intro w hw
 obtain ⟨hk55, h⟩ := ai h
 obtain rfl := Option.some.inj h
 subst hF
 exact aO (is := [1]) (by kernel_rfl) hw rfl ⟨rfl, rfl, (dQ hk55), hr31, iV, trivial⟩
theorem kH {gd ed : Nat} {rowd : Rowb} {d : a7} (hd : a7.ob ed Γ gd rowd d) (hdr : ∀ p ∈ rowd, Γ p.1 = some p.2) (hs : Sat Γ w0) {r : Int} (h : ga d = some r) : CQ Tryz.prog 64 #[(pq gd)] w0 (ii r) := by
 refine goQ [2] func64 ntmps64 results64 hs fun F hF => ?_
 refine WC.rs (aV (k:=WR.done (WC.rs (mV (k:=sV nlV (k:=sV (q_fl 3 hZ) (k:=?_)))))))
 obtain ⟨m1_1, r1_1, m2_1, r2_1, A3_1, c3_1, r3_1, hrow_1, ho0_1, ho1_1, ho2_1, ho3_1, -⟩ := id hd
 have hg_2 : ∀ u ∈ ([[(gd, .cells #[ii d.room, .map (some m1_1), .map (some m2_1), .slice A3_1 d.loose.length c3_1] ed (0, 0))], r1_1, r2_1, r3_1] : List Rowb), ∀ p ∈ u, Γ p.1 = some p.2 := fun u hu p hp => (fun p hp => (hdr p hp)) p (hrow_1 ▸ List.mem_flatten.2 ⟨u, hu, hp⟩)
 have hgc3 := hg_2 _ (List.mem_cons_self ..) (gd, _) (List.mem_singleton.2 rfl)
 have hgs4 := hg_2 r1_1 (by simp)
 have hgs5 := hg_2 r2_1 (by simp)
 have hgs6 := hg_2 r3_1 (by simp)
 have hs7 := ho3_1.sl gR hgs6
 refine sV (gF (v := .slice A3_1 d.loose.length c3_1) hgc3 rfl isAgg91 rfl rfl) (k:=sV (ab rfl underlying91) (k:=aV (k:=WR.done ?_)))
 exact WC.ret fun w hw => rq_ r h hF hw
theorem nX {Anames : Option Addr} {cnames : Nat} {names : List ByteArray} (hnames : Sl strT Γ Anames names) (hnamesc : names.length ≤ cnames) (hs : Sat Γ w0) {r : Bool} (h : iC names = some r) : CQ Tryz.prog 198 #[.slice Anames names.length cnames] w0 (.bool r) := by
 refine goQ [2] func198 ntmps198 results198 hs fun F hF => ?_
 refine WC.rs (aV (k:=WR.done (WC.seq (WC.rs (mV (k:=sV (ab rfl underlying232) (k:=mV (k:=?_))))))))
 refine WR.done (WC.block ?_)
 refine WC.forI h (fun (i2 : Nat) (s : Unit) σ w => match s with | () => slots σ [(5, .slice Anames names.length cnames), (6, ii (names.length : Int)), (7, ii (i2 : Int))] ∧ CC F Γ [] w ∧ True) ?_ ?_
 ·
  intro w hw
  exact ⟨slK, hw, trivial⟩
 rintro f1 i2 ⟨⟩ σ w hi3 hlt4 hge5 ⟨hsl, hw, -⟩
 refine slV hsl hw [] ?_; clear hw hsl
 refine WC.rs (sV aS (k:=WR.done (WC.seq ?_)))
 refine coV (fun hb6 => ?_) (fun hb6 => ?_)
 ·
  have hl7 := ilt hb6
  have h := hlt4 hl7
  refine WC.skip (wc_ (WC.seq (WC.block (WC.rs (sV (bb (i := i2) underlying232 sizeOf9 rfl rfl rfl hl7 (hnames.some_ hl7)) (k:=sV (q_ld (c := 0) (v := .string (gt names i2)) (hnames.strT_at hl7).2 rfl isAgg9 rfl rfl) (k:=aV (k:=?_))))))))
  refine WR.done (WC.rs (mV (k:=sV (cJ rfl underlying9) (k:=sV aS (k:=mV (k:=vG0 (h:=fun hg8 => moV) (k:=vG0 (h:=fun hg9 => cJ rfl underlying9 (grV hg9)) (k:=?_))))))))
  refine vG0 (h:=fun hg10 => bB rfl (grV hg10)) (k:=sV pkO (k:=WR.done ?_))
  refine ciV h (fun hb11 h => ?_) (fun hb11 h => ?_)
  ·
   refine WC.rs (aV (k:=WR.done ?_))
   exact WC.ret fun w hw => rq_ r h hF hw
  refine WC.skip (wc_ ?_)
  refine WC.region ?_
  refine sV (aC rfl rfl rfl (aP hl7 hnames.le)) (k:=mV (k:=?_))
  refine WR.nil ?_
  intro w hw
  exact ⟨hl7, (), h, slK, hw, trivial⟩
 have h := hge5 (ige hb6)
 refine WC.exit ?_
 change WC _ _ _ _ _ _
 refine WC.rs (aV (k:=WR.done ?_))
 exact WC.ret fun w hw => rq_ r h hF hw
theorem kQ {gd ed : Nat} {rowd : Rowb} {d : a7} (hd : a7.ob ed Γ gd rowd d) (hdr : ∀ p ∈ rowd, Γ p.1 = some p.2) (name : ByteArray) (hname : name.size ≤ lim) (hs : Sat Γ w0) {r : Int} (h : ec d name = some r) : CQ Tryz.prog 185 #[(pq gd), .string name] w0 (ii r) := by
 refine goQ [4] func185 ntmps185 results185 hs fun F hF => ?_
 refine WC.rs (aV (k:=WR.done (WC.seq (WC.rs (mV (k:=?_))))))
 refine bsV #[.string name] 9 fun g1 => ?_
 have ho2 : Own strT Γ 9 [(g1, .cells #[.string name] 9 (0, 0))] (some ⟨g1, 0, none⟩) 1 [name] := Own.of_blockL (T := strT) (ys := [name]) [[.string name]] rfl (show 1 ≤ lim by decide) ⟨⟨rfl, hname⟩, trivial⟩
 obtain ⟨z3, hz4, h⟩ := bnd h
 refine vqV (caV call198) (fun w hw => nX (Γ := Gh.all w) (ho2.sl hw.sat.le_all (hw.ra 0 rfl)) ho2.capz (Sat.all w) hz4) (k:=sV bu (k:=WR.done ?_))
 refine ciV h (fun hb5 h => ?_) (fun hb5 h => ?_)
 ·
  refine WC.rs (aV (k:=WR.done ?_))
  exact WC.ret fun w hw => rq_ r h hF hw
 refine WC.skip (wc_ (WC.seq (WC.rs (mV (k:=sV nlV (k:=sV (q_fl 2 jF) (k:=?_)))))))
 obtain ⟨m1_6, r1_6, m2_6, r2_6, A3_6, c3_6, r3_6, hrow_6, ho0_6, ho1_6, ho2_6, ho3_6, -⟩ := id hd
 have hg_7 : ∀ u ∈ ([[(gd, .cells #[ii d.room, .map (some m1_6), .map (some m2_6), .slice A3_6 d.loose.length c3_6] ed (0, 0))], r1_6, r2_6, r3_6] : List Rowb), ∀ p ∈ u, Γ p.1 = some p.2 := fun u hu p hp => (fun p hp => (hdr p hp)) p (hrow_6 ▸ List.mem_flatten.2 ⟨u, hu, hp⟩)
 have hgc8 := hg_7 _ (List.mem_cons_self ..) (gd, _) (List.mem_singleton.2 rfl)
 have hgs9 := hg_7 r1_6 (by simp)
 have hgs10 := hg_7 r2_6 (by simp)
 have hgs11 := hg_7 r3_6 (by simp)
 have hs12 := ho3_6.sl gR hgs11
 refine sV (gF (v := .map (some m2_6)) hgc8 rfl isAgg90 rfl rfl) (k:=mV (k:=?_))
 obtain ⟨v13, ⟨A16, c17, hv14, hc18, hs19⟩, hat15⟩ := MapO.look ho2_6 name (z := .slice none 0 0) (zx := []) ⟨none, 0, rfl, Nat.zero_le _, Sl.nil _ _ _⟩
 obtain rfl : v13 = _ := List.cons.inj hv14 |>.1
 refine sV (vg (v := .slice A16 ((mget name d.seen).getD []).length c17) (fun p hp => (hgs10 p hp)) hat15 rfl underlying90 zeroValue70 rfl rfl) (k:=mV (k:=sV exV (k:=sV exV (k:=aV (k:=aV (k:=WR.done (WC.rs ?_)))))))
 refine mV (k:=sV bu (k:=WR.done ?_))
 refine ciV h (fun hb20 h => ?_) (fun hb20 h => ?_)
 ·
  refine WC.rs (aV (k:=WR.done ?_))
  exact WC.ret fun w hw => rq_ r h hF hw
 refine WC.skip (wc_ (WC.rs (aV (k:=WR.done ?_))))
 exact WC.ret fun w hw => rq_ r h hF hw
theorem li {As_ : Option Addr} {cs_ : Nat} {s_ : List UInt8} (hs_ : Sl av Γ As_ s_) (hs_c : s_.length ≤ cs_) (hs : Sat Γ w0) {r : List UInt8} (h : eZ s_ = some r) : CQ Tryz.prog 96 #[.slice As_ s_.length cs_] w0 (.slice As_ s_.length s_.length) := by
 refine goQ [2] func96 ntmps96 results96 hs fun F hF => ?_
 refine WC.rs (aV (k:=WR.done (WC.rs (mV (k:=mV (k:=sV (ab rfl underlying70) (k:=mV (k:=?_))))))))
 refine sV (ab rfl underlying70) (k:=sV (B3 (T := av) (xs := s_) underlying70 sizeOf5 rfl rfl rfl rfl hs_c) (k:=aV (k:=WR.done ?_)))
 exact WC.ret fun w hw => by obtain rfl := Option.some.inj h; exact ⟨by kernel_rfl, fr_ hF hw⟩
abbrev oL (mf_ : Nat) (r : List (ByteArray × (List UInt8))) (U : List Rowb) (Γ : Gh) (v : Value) : Prop := ∃ (rowf_' : Rowb), v = .tuple #[] ∧ U = [rowf_'] ∧ MapO (strK Tryz.underlying9) (slT av).v Γ rowf_' mf_ r ∧ True
theorem sU {mf_ : Nat} {rowf_ : Rowb} {f_ : List (ByteArray × (List UInt8))} (hf_ : MapO (strK underlying9) (slT av).v Γ rowf_ mf_ f_) {gb0 : Nat} (b0 : ByteArray) (hb0_0 : Γ gb0 = some (.cells #[.string b0] 9 (0, 0))) (hb0_1 : b0.size ≤ lim) {gb1 : Nat} {Ab1_0 : Option Addr} {cb1_0 : Nat} (b1 : (List UInt8)) (hb1_0 : Γ gb1 = some (.cells #[.slice Ab1_0 b1.length cb1_0] 70 (0, 0))) (hb1_1 : b1.length ≤ cb1_0) (hb1_2 : Sl av Γ Ab1_0 b1) (hp : Pre [rowf_] Γ w0) {r : List (ByteArray × (List UInt8))} (h : jX f_ b0 b1 = some r) : Calls Tryz.prog 95 #[.map (some mf_), (pq gb0), (pq gb1)] w0 (Outc Γ [rowf_] w0 (oL mf_ r)) := by
 refine goV [] func95 ntmps95 results95 hp fun F hF => ?_
 refine leV fun h01 => ?_
 refine eD (CC F Γ []) (bo_ [] gR h01) fun k => ?_
 change WH _ _ _ _ (CC F Γ [_]) _ 9 _ _
 refine hV 0 k (q:=ay (v := .map (some mf_)) rfl (by kernel_rfl)) (k:=hV 1 k (q:=gF (v := .string b0) hb0_0 rfl isAgg9 rfl rfl) (k:=hV 2 k (q:=ay (v := .map (some mf_)) rfl (by kernel_rfl)) (k:=hV 3 k (q:=gF (v := .string b0) hb0_0 rfl isAgg9 rfl rfl) (k:=hV 6 k (q:=gF (v := .slice Ab1_0 b1.length cb1_0) hb1_0 rfl isAgg70 rfl rfl) (k:=wl_ 4 rfl ?_)))))
 obtain ⟨v2, ⟨A5, c6, hv3, hc7, hs8⟩, hat4⟩ := MapO.look hf_ b0 (z := .slice none 0 0) (zx := []) ⟨none, 0, rfl, Nat.zero_le _, Sl.nil _ _ _⟩
 obtain rfl : v2 = _ := List.cons.inj hv3 |>.1
 refine sV (mK (v := .slice A5 ((mget b0 f_).getD []).length c6) hat4 rfl underlying90 zeroValue70 rfl rfl (i := 0) rfl) (k:=?_)
 refine WR.nil (nxV (bo_ [] gR h01) fun k => ?_)
 refine wl_ 5 rfl ?_
 obtain ⟨z9, hz10, h⟩ := bnd h
 refine vqV (caV call96) (fun w hw => li (Γ := Gh.all w) (hs8.mono hw.sat.le_all) hc7 (Sat.all w) hz10) (k:=?_)
 refine WR.nil (nxV (bo_ [] gR h01) fun k => ?_)
 refine wl_ 7 rfl ?_
 obtain ⟨hk11, h⟩ := ai h
 refine rM (T := av) (xs := ((mget b0 f_).getD [])) (ys := b1) gT rfl rfl rfl rfl rfl rfl hs8 (of_decide_eq_true hk11) (fun w hw => mv hb1_2 hw) ?_
 intro Γ12 A13 c14 hl15 hs16 hc17
 refine WR.nil (nxV (bo_ [] hl15 h01) fun k => ?_)
 refine wl_ 8 rfl ?_
 refine kM (i := 1) (x := b0) (v := .slice A13 (((mget b0 f_).getD []) ++ b1).length c14) (a := (((mget b0 f_).getD []) ++ b1)) rfl rfl rfl underlying90 rfl rfl (by kernel_rfl) rfl (hf_.mono hl15) (by exact ⟨A13, c14, rfl, hc17, hs16⟩) hb0_1 ?_
 intro row18 hm19
 refine WR.nil (nxV (bo_ [] hl15 h01) fun k => ?_)
 refine WH.done (by kernel_rfl) ?_
 intro w hw
 obtain rfl := Option.some.inj h
 subst hF
 exact aO (is := [1]) (by kernel_rfl) hw rfl ⟨row18, rfl, rfl, hm19, trivial⟩
abbrev p6 (mf_ : Nat) (r : List (ByteArray × (List UInt8))) (U : List Rowb) (Γ : Gh) (v : Value) : Prop := ∃ (rowf_' : Rowb), v = .tuple #[] ∧ U = [rowf_'] ∧ MapO (strK Tryz.underlying9) (slT av).v Γ rowf_' mf_ r ∧ True
theorem oT {mf_ : Nat} {rowf_ : Rowb} {f_ : List (ByteArray × (List UInt8))} (hf_ : MapO (strK underlying9) (slT av).v Γ rowf_ mf_ f_) {gb0 : Nat} (b0 : ByteArray) (hb0_0 : Γ gb0 = some (.cells #[.string b0] 9 (0, 0))) (hb0_1 : b0.size ≤ lim) {gb1 : Nat} (b1 : Int) (hb1_0 : Γ gb1 = some (.cells #[ii b1] 3 (0, 0))) (hb1_1 : I64 b1) (hp : Pre [rowf_] Γ w0) {r : List (ByteArray × (List UInt8))} (h : fV f_ b0 b1 = some r) : Calls Tryz.prog 187 #[.map (some mf_), (pq gb0), (pq gb1)] w0 (Outc Γ [rowf_] w0 (p6 mf_ r)) := by
 refine goV [] func187 ntmps187 results187 hp fun F hF => ?_
 refine leV fun h01 => ?_
 refine eD (CC F Γ []) (bo_ [] gR h01) fun k => ?_
 change WH _ _ _ _ (CC F Γ [_]) _ 8 _ _
 refine hV 0 k (q:=ay (v := .map (some mf_)) rfl (by kernel_rfl)) (k:=hV 1 k (q:=gF (v := .string b0) hb0_0 rfl isAgg9 rfl rfl) (k:=hV 2 k (q:=ay (v := .map (some mf_)) rfl (by kernel_rfl)) (k:=hV 3 k (q:=gF (v := .string b0) hb0_0 rfl isAgg9 rfl rfl) (k:=hV 5 k (q:=gF (v := ii b1) hb1_0 rfl isAgg3 rfl rfl) (k:=wl_ 4 rfl ?_)))))
 obtain ⟨v2, ⟨A5, c6, hv3, hc7, hs8⟩, hat4⟩ := MapO.look hf_ b0 (z := .slice none 0 0) (zx := []) ⟨none, 0, rfl, Nat.zero_le _, Sl.nil _ _ _⟩
 obtain rfl : v2 = _ := List.cons.inj hv3 |>.1
 refine sV (mK (v := .slice A5 ((mget b0 f_).getD []).length c6) hat4 rfl underlying90 zeroValue70 rfl rfl (i := 0) rfl) (k:=?_)
 refine WR.nil (nxV (bo_ [] gR h01) fun k => ?_)
 obtain ⟨hk9, h⟩ := ai h
 refine hV 6 k (q:=mF (c := c6) (hi := b1.toNat) (xs := ((mget b0 f_).getD [])) underlying70 sizeOf5 rfl rfl (iG rfl hk9) (cm hk9) hc7) (k:=wl_ 7 rfl ?_)
 refine kM (i := 0) (x := b0) (v := .slice A5 (List.take b1.toNat ((mget b0 f_).getD [])).length c6) (a := (List.take b1.toNat ((mget b0 f_).getD []))) rfl rfl rfl underlying90 rfl rfl (by kernel_rfl) rfl hf_ (by exact ⟨A5, c6, rfl, (rE hc7 b1.toNat), (hs8.cut_to (hi := b1.toNat) (cm hk9))⟩) hb0_1 ?_
 intro row10 hm11
 refine WR.nil (nxV (bo_ [] gR h01) fun k => ?_)
 refine WH.done (by kernel_rfl) ?_
 intro w hw
 obtain rfl := Option.some.inj h
 subst hF
 exact aO (is := [0]) (by kernel_rfl) hw rfl ⟨row10, rfl, rfl, hm11, trivial⟩
abbrev mD (mf_ : Nat) (r : List (ByteArray × (List UInt8))) (U : List Rowb) (Γ : Gh) (v : Value) : Prop := ∃ (rowf_' : Rowb), v = .tuple #[] ∧ U = [rowf_'] ∧ MapO (strK Tryz.underlying9) (slT av).v Γ rowf_' mf_ r ∧ True
theorem m9 {mf_ : Nat} {rowf_ : Rowb} {f_ : List (ByteArray × (List UInt8))} (hf_ : MapO (strK underlying9) (slT av).v Γ rowf_ mf_ f_) {gb0 : Nat} (b0 : ByteArray) (hb0_0 : Γ gb0 = some (.cells #[.string b0] 9 (0, 0))) (hb0_1 : b0.size ≤ lim) (hp : Pre [rowf_] Γ w0) {r : List (ByteArray × (List UInt8))} (h : jG f_ b0 = some r) : Calls Tryz.prog 193 #[.map (some mf_), (pq gb0)] w0 (Outc Γ [rowf_] w0 (mD mf_ r)) := by
 refine goV [] func193 ntmps193 results193 hp fun F hF => ?_
 refine WC.region ?_
 refine mU (v := .map (some mf_)) (k:=sV (gF (v := .string b0) hb0_0 rfl isAgg9 rfl rfl) (k:=?_))
 refine qF (i := 0) (x := b0) rfl hf_ rfl rfl rfl underlying90 rfl rfl ?_
 intro row1 hm2
 refine WR.nil ?_
 intro w hw
 obtain rfl := Option.some.inj h
 subst hF
 exact aO (is := [0]) (by kernel_rfl) hw rfl ⟨row1, rfl, rfl, hm2, trivial⟩
theorem fx {Γ : Gh} {x : ah} {A : Option Addr} {c : Nat} (hx : ah.ok Γ A c x) {mf_ : Nat} {rowf_ : Rowb} {f_ : List (ByteArray × (List UInt8))} (hf_ : MapO (strK Tryz.underlying9) (slT av).v Γ rowf_ mf_ f_) {r : List (ByteArray × (List UInt8))} (h : cy x f_ = some r) : ∃ fd caps, ah.val x A c = .func (.func fd) #[] caps ∧ (∀ (args : Array Value) (w : World), (callFunc fd args).run Tryz.prog w = .ok (.enter fd args) w) ∧ ∀ w0, Pre [rowf_] Γ w0 → Calls Tryz.prog fd (#[.map (some mf_)] ++ caps) w0 (Outc Γ [rowf_] w0 (oL mf_ r)) := by
  cases x with
  | disk_add_1 a0 a1 =>
    obtain ⟨⟨h0_0, h0_1⟩, ⟨g1, A1_0, c1_0, rfl, h1_0, h1_1, h1_2⟩, -⟩ := hx
    exact ⟨_, _, rfl, Tryz.call95, fun w0 hp => sU hf_ a0 h0_0 h0_1 a1 h1_0 h1_1 h1_2 hp h⟩
  | disk_Disk_Cut_1 a0 a1 =>
    obtain ⟨⟨h0_0, h0_1⟩, ⟨g1, rfl, h1_0, h1_1⟩, -⟩ := hx
    exact ⟨_, _, rfl, Tryz.call187, fun w0 hp => oT hf_ a0 h0_0 h0_1 a1 h1_0 h1_1 hp h⟩
  | disk_Disk_Remove_1 a0 =>
    obtain ⟨⟨h0_0, h0_1⟩, -⟩ := hx
    exact ⟨_, _, rfl, Tryz.call193, fun w0 hp => m9 hf_ a0 h0_0 h0_1 hp h⟩
abbrev pe (gd : Nat) (ed : Nat) (r : a7 × Int) (U : List Rowb) (Γ : Gh) (v : Value) : Prop := ∃ (rowd' : Rowb), v = .int .i64 r.2 ∧ U = [rowd'] ∧ a7.ob ed Γ gd rowd' r.1 ∧ I64 r.2 ∧ True
theorem j9 {gd ed : Nat} {rowd : Rowb} {d : a7} (hd : a7.ob ed Γ gd rowd d) {Ac_0 : Option Addr} {cc_0 : Nat} {Ac_2 : Option Addr} {cc_2 : Nat} (c_ : aw) (hc_ : aw.fits Γ Ac_0 cc_0 Ac_2 cc_2 c_) (hp : Pre [rowd] Γ w0) {r : a7 × Int} (h : dt d c_ = some r) : Calls Tryz.prog 186 #[(pq gd), .agg #[(ah.val c_.do_ Ac_0 cc_0), .string c_.name, .slice Ac_2 c_.tail.length cc_2]] w0 (Outc Γ [rowd] w0 (pe gd ed r)) := by
 refine goV [4] func186 ntmps186 results186 hp fun F hF => ?_
 refine WC.rs ?_
 refine bxV (v := .agg #[(ah.val c_.do_ Ac_0 cc_0), .string c_.name, .slice Ac_2 c_.tail.length cc_2]) fun g1 => ?_
 refine aV (k:=WR.done (WC.seq ?_))
 refine leV fun h02 => ?_
 refine eD (CC F Γ [[(g1, .cells #[(ah.val c_.do_ Ac_0 cc_0), .string c_.name, .slice Ac_2 c_.tail.length cc_2] 111 (0, 0))]]) (bo_ [0] gR h02) fun k => ?_
 change WH _ _ _ _ (CC F Γ [_, _]) _ 7 _ _
 refine hV 0 k (q:=q_fl 0 s8) (k:=hV 1 k (q:=ldV 0 isAgg109) (k:=hV 2 k (q:=moV) (k:=hV 3 k (q:=nlV) (k:=hV 4 k (q:=q_fl 2 jF) (k:=wl_ 5 rfl ?_)))))
 obtain ⟨m1_3, r1_3, m2_3, r2_3, A3_3, c3_3, r3_3, hrow_3, ho0_3, ho1_3, ho2_3, ho3_3, -⟩ := id hd
 refine ufR 1 hrow_3 [_, _, _, _, _] ?_
 refine sV (ldV 0 isAgg90) (k:=?_)
 refine WR.nil (nxV (bo_ [4] gR h02) fun k => ?_)
 refine wl_ 6 rfl ?_
 obtain ⟨z4, hz5, h⟩ := bnd h
 obtain ⟨fd6, cp7, hv8, he9, hcl10⟩ := fx (x := c_.do_) hc_.1 ho2_3 hz5
 refine ecV [2] (ee (caps := cp7) (args := #[.map (some m2_3)] ++ cp7) he9 rfl (Eq.trans (b := (ah.val c_.do_ Ac_0 cc_0)) (by kernel_rfl) hv8) (by kernel_rfl)) (fun w hp => (by exact hcl10 w hp)) ?_
 rintro Γ11 _ _ hl12 ⟨row15, rfl, rfl, hr16, _⟩
 refine cwV 11 [_, _, _, _, _] ?_
 refine WR.nil (nxV (bo_ [4] hl12 h02) fun k => ?_)
 refine WH.done (by kernel_rfl) ?_
 change WC _ _ _ _ _ _
 refine WC.seq ?_
 refine leV fun h017 => ?_
 refine eD (CC F Γ11 [[(g1, .cells #[(ah.val c_.do_ Ac_0 cc_0), .string c_.name, .slice Ac_2 c_.tail.length cc_2] 111 (0, 0))]]) (bo_ [4] gR h017) fun k => ?_
 change WH _ _ _ _ (CC F Γ11 [_, _, _, _, _]) _ 11 _ _
 refine hV 0 k (q:=moV) (k:=hV 1 k (q:=moV) (k:=hV 2 k (q:=nlV) (k:=hV 3 k (q:=q_fl 3 hZ) (k:=hV 5 k (q:=ldaV 0 [(ah.val c_.do_ Ac_0 cc_0), .string c_.name, .slice Ac_2 c_.tail.length cc_2] isAgg111 sizeOf111) (k:=?_)))))
 refine WH.each (l := [4, 6]) (by kernel_rfl) (by simp) ?_
 intro i hi; simp only [List.mem_cons, List.not_mem_nil, or_false] at hi
 rcases hi with rfl | rfl
 ·
  refine ⟨_, rfl, ?_⟩
  refine sV (ldV 1 isAgg91) (k:=?_)
  refine WR.nil (nxV (bo_ [4] gR h017) fun k => ?_)
  refine wl_ 6 rfl ?_
  refine bsV #[(ah.val c_.do_ Ac_0 cc_0), .string c_.name, .slice Ac_2 c_.tail.length cc_2] 111 fun g18 => ?_
  refine WR.nil (nxV (bo_ [5] gR h017) fun k => ?_)
  refine wl_ 7 rfl ?_
  obtain ⟨hk19, h⟩ := ai h
  refine apV 4 [c_] vR (ho3_3.mono hl12) (of_decide_eq_true hk19) (fun w hw => dR (i := 0) rfl (by exact ⟨Ac_0, cc_0, Ac_2, cc_2, rfl, (aw.fits_mono hc_ hl12)⟩) hw) ?_
  intro row20 A21 c22 ho23
  refine WR.nil (nxV (bo_ [5] gR h017) fun k => ?_)
  refine hV 8 k (q:=nlV) (k:=hV 9 k (q:=q_fl 3 hZ) (k:=wl_ 10 rfl (stV 2 (.slice A21 (d.loose ++ [c_]).length c22) #[ii d.room, .map (some m1_3), .map (some m2_3), .slice A21 (d.loose ++ [c_]).length c22] sizeOf91 (k:=?_))))
  refine WR.nil (nxV (bo_ [5] gR h017) fun k => ?_)
  refine WH.done (by kernel_rfl) ?_
  change WC _ _ _ _ _ _
  refine WC.rs (aV (k:=WR.done ?_))
  refine WC.ret ?_
  intro w hw
  obtain ⟨row_24, hrow_24, hob_24⟩ : ∃ rw : Rowb, rw = ([[(gd, .cells #[ii d.room, .map (some m1_3), .map (some m2_3), .slice A21 (d.loose ++ [c_]).length c22] ed (0, 0))], r1_3, row15, row20] : List Rowb).flatten ∧ a7.ob ed Γ11 gd rw (⟨d.room, d.safe_, z4, (d.loose ++ [c_])⟩ : a7) := ⟨_, rfl, m1_3, r1_3, m2_3, row15, A21, c22, row20, rfl, ho0_3, (ho1_3.mono hl12), hr16, ho23, trivial⟩
  have hw := hw.fold (is := [2, 2, 1, 1]) rfl hrow_24
  obtain rfl := Option.some.inj h
  subst hF
  exact aO (is := [0]) (by kernel_rfl) hw rfl ⟨row_24, rfl, rfl, hob_24, iV, trivial⟩
 refine ⟨_, rfl, ?_⟩
 refine bsV #[(ah.val c_.do_ Ac_0 cc_0), .string c_.name, .slice Ac_2 c_.tail.length cc_2] 111 fun g18 => ?_
 refine WR.nil (nxV (bo_ [5] gR h017) fun k => ?_)
 refine wl_ 4 rfl (sV (ldV 2 isAgg91) (k:=?_))
 refine WR.nil (nxV (bo_ [5] gR h017) fun k => ?_)
 refine wl_ 7 rfl ?_
 obtain ⟨hk19, h⟩ := ai h
 refine apV 4 [c_] vR (ho3_3.mono hl12) (of_decide_eq_true hk19) (fun w hw => dR (i := 0) rfl (by exact ⟨Ac_0, cc_0, Ac_2, cc_2, rfl, (aw.fits_mono hc_ hl12)⟩) hw) ?_
 intro row20 A21 c22 ho23
 refine WR.nil (nxV (bo_ [5] gR h017) fun k => ?_)
 refine hV 8 k (q:=nlV) (k:=hV 9 k (q:=q_fl 3 hZ) (k:=wl_ 10 rfl (stV 2 (.slice A21 (d.loose ++ [c_]).length c22) #[ii d.room, .map (some m1_3), .map (some m2_3), .slice A21 (d.loose ++ [c_]).length c22] sizeOf91 (k:=?_))))
 refine WR.nil (nxV (bo_ [5] gR h017) fun k => ?_)
 refine WH.done (by kernel_rfl) ?_
 change WC _ _ _ _ _ _
 refine WC.rs (aV (k:=WR.done ?_))
 refine WC.ret ?_
 intro w hw
 obtain ⟨row_24, hrow_24, hob_24⟩ : ∃ rw : Rowb, rw = ([[(gd, .cells #[ii d.room, .map (some m1_3), .map (some m2_3), .slice A21 (d.loose ++ [c_]).length c22] ed (0, 0))], r1_3, row15, row20] : List Rowb).flatten ∧ a7.ob ed Γ11 gd rw (⟨d.room, d.safe_, z4, (d.loose ++ [c_])⟩ : a7) := ⟨_, rfl, m1_3, r1_3, m2_3, row15, A21, c22, row20, rfl, ho0_3, (ho1_3.mono hl12), hr16, ho23, trivial⟩
 have hw := hw.fold (is := [2, 2, 1, 1]) rfl hrow_24
 obtain rfl := Option.some.inj h
 subst hF
 exact aO (is := [0]) (by kernel_rfl) hw rfl ⟨row_24, rfl, rfl, hob_24, iV, trivial⟩
abbrev qt (gd : Nat) (ed : Nat) (r : a7 × Int) (U : List Rowb) (Γ : Gh) (v : Value) : Prop := ∃ (rowd' : Rowb), v = .int .i64 r.2 ∧ U = [rowd'] ∧ a7.ob ed Γ gd rowd' r.1 ∧ I64 r.2 ∧ True
theorem ql {gd ed : Nat} {rowd : Rowb} {d : a7} (hd : a7.ob ed Γ gd rowd d) (name : ByteArray) (hname : name.size ≤ lim) (n : Int) (hn : I64 n) (hp : Pre [rowd] Γ w0) {r : a7 × Int} (h : il d name n = some r) : Calls Tryz.prog 134 #[(pq gd), .string name, ii n] w0 (Outc Γ [rowd] w0 (qt gd ed r)) := by
 refine goV [6] func134 ntmps134 results134 hp fun F hF => ?_
 refine WC.rs ?_
 refine bxV (v := .string name) fun g1 => ?_
 refine bxV (v := ii n) fun g2 => ?_
 refine aV (k:=WR.done (WC.seq (WC.rs (mV (k:=sV (ldV 1 isAgg9) (k:=?_))))))
 obtain ⟨z3, hz4, h⟩ := bnd h
 refine vqV (caV call185) (fun w hw => kQ (Γ := Gh.all w) (hd.mono hw.sat.le_all) (hw.ra 2 rfl) name hname (Sat.all w) hz4) (k:=aV (k:=WR.done (WC.rs (mV (k:=sV bZ (k:=WR.done ?_))))))
 refine ciV h (fun hb5 h => ?_) (fun hb5 h => ?_)
 ·
  refine WC.rs (mV (k:=aV (k:=WR.done ?_)))
  refine WC.ret ?_
  intro w hw
  obtain ⟨hk6, h⟩ := ai h
  obtain rfl := Option.some.inj h
  subst hF
  exact aO (is := [2]) (by kernel_rfl) hw rfl ⟨rowd, rfl, rfl, hd, (dQ hk6), trivial⟩
 refine WC.skip (wc_ (WC.seq (WC.seq ?_)))
 obtain ⟨m1_7, r1_7, m2_7, r2_7, A3_7, c3_7, r3_7, hrow_7, ho0_7, ho1_7, ho2_7, ho3_7, -⟩ := id hd
 refine ufC 2 hrow_7 [_, _, _, _, _, _] ?_
 refine drV ?_
 refine zV (ldV 4 isAgg3) (k:=zV aS (k:=zV moV (k:=wG0 (h:=fun hg8 => ldV 4 isAgg3) (k:=wG0 (h:=fun hg9 => moV) (k:=wG0 (h:=fun hg10 => nlV (hv:=grV hg10)) (k:=wG0 (h:=fun hg11 => q_fl 2 jF rfl (grV hg11)) (k:=wG0 (h:=fun hg12 => ldV 0 isAgg90 (hx:=grV hg12)) (k:=?_))))))))
 refine wG0 (h:=fun hg13 => ldV 5 isAgg9) (k:=?_)
 obtain ⟨v15, ⟨A18, c19, hv16, hc20, hs21⟩, hat17⟩ := MapO.look ho2_7 name (z := .slice none 0 0) (zx := []) ⟨none, 0, rfl, Nat.zero_le _, Sl.nil _ _ _⟩
 obtain rfl : v15 = _ := List.cons.inj hv16 |>.1
 refine wG0 (h:=fun hg14 => mK (v := .slice A18 ((mget name d.seen).getD []).length c19) hat17 rfl underlying90 zeroValue70 (grV hg14) (grV hg14) (i := 2) rfl) (k:=wG0 (h:=fun hg22 => ab rfl underlying70 (grV hg22)) (k:=wG0 (h:=fun hg23 => bB rfl (grV hg23) (grV hg23)) (k:=zV pkO (k:=?_))))
 refine WQ.nil ?_
 change WC _ _ _ _ _ _
 refine ciV h (fun hb24 h => ?_) (fun hb24 h => ?_)
 ·
  refine WC.rs (aV (k:=WR.done ?_))
  refine WC.ret ?_
  intro w hw
  have hw := hw.fold (is := [0, 0, 0, 0]) rfl hrow_7
  exact re_ r [0] h hF hw ⟨rowd, rfl, rfl, hd, iV, trivial⟩
 refine WC.skip (wc_ (WC.rs (mV (k:=sV (jP (v := .func (.func 187) #[] #[(pq g1), (pq g2)]) rfl (by kernel_rfl)) (k:=sV (aZ (v := .agg #[.func (.func 187) #[] #[(pq g1), (pq g2)], .string ByteArray.empty, .slice none 0 0]) rfl (jN rfl) (fun w => by kernel_rfl)) (k:=?_))))))
 refine foR [0, 0, 0, 0] hrow_7 [_, _, _] ?_
 intro w hw; obtain ⟨Γ27, hw, hl28, hr29⟩ := hw.seal (i := 2) rfl
 have hg30 := hr29 _ (List.mem_singleton.2 rfl)
 refine WR.here (C := CC F Γ27 [_, _, _]) ?_ hw
 clear hw
 intro w hw; obtain ⟨Γ31, hw, hl32, hr33⟩ := hw.seal (i := 1) rfl
 have hg34 := hr33 _ (List.mem_singleton.2 rfl)
 refine WR.here (C := CC F Γ31 [_, _, _]) ?_ hw
 clear hw
 have hf35 : ah.ok Γ31 (some ⟨g2, 0, none⟩) g1 (ah.disk_Disk_Cut_1 name n) := ⟨⟨(hl32 _ _ hg30), hname⟩, ⟨g2, rfl, hg34, hn⟩, trivial⟩
 obtain ⟨z36, hz37, h⟩ := bnd h
 refine ecV [0] (caV call186) (fun w hp => j9 (hd.mono (hl28.trans hl32)) (Ac_2 := none) (cc_2 := 0) (⟨(ah.disk_Disk_Cut_1 name n), ByteArray.empty, []⟩ : aw) ⟨hf35, (show (ByteArray.empty : ByteArray).size ≤ lim by decide), nilV⟩ hp hz37) ?_
 rintro Γ38 _ _ hl39 ⟨row42, rfl, rfl, hr43, hr44, _⟩
 refine cwV 30 [_, _, _] (aV (k:=WR.done ?_))
 exact WC.ret fun w hw => re_ r [0] h hF hw ⟨row42, rfl, rfl, hr43, hr44, trivial⟩
abbrev lN (edk0 : Nat) (gp__0 : Nat) (r : a7) (U : List Rowb) (Γ : Gh) (v : Value) : Prop := ∃ (rowdk0' : Rowb), v = .tuple #[] ∧ U = [rowdk0'] ∧ a7.ob edk0 Γ gp__0 rowdk0' r ∧ True
theorem iS {gp__0 : Nat} (p__1 : ByteArray) (hp__1 : p__1.size ≤ lim) (p__2 : Int) (hp__2 : I64 p__2) (f_ : ByteArray) (hf_ : f_.size ≤ lim) (n : Int) (hn : I64 n) {edk0 : Nat} {rowdk0 : Rowb} {dk0 : a7} (hdk0 : a7.ob edk0 Γ gp__0 rowdk0 dk0) (hp : Pre [rowdk0] Γ w0) {r : a7} (h : cD p__1 p__2 f_ n dk0 = some r) : Calls Tryz.prog 65 #[.agg #[(pq gp__0), .string p__1, ii p__2], .string f_, ii n] w0 (Outc Γ [rowdk0] w0 (lN edk0 gp__0 r)) := by
 refine goV [] func65 ntmps65 results65 hp fun F hF => ?_
 refine WC.rs ?_
 refine bxV (v := .agg #[(pq gp__0), .string p__1, ii p__2]) fun g1 => ?_
 refine WR.done (WC.rs (sV (q_fl 0 iw) (k:=sV (ldV 0 isAgg31) (k:=mV (k:=?_)))))
 obtain ⟨z2, hz3, h⟩ := bnd h
 refine ecV [1] (caV call131) (fun w hp => jd hdk0 f_ hf_ hp hz3) ?_
 rintro Γ4 _ _ hl5 ⟨A8, c9, row10, rfl, rfl, hr11, _⟩
 refine cwV 12 [_, _, _] (mV (k:=sV exV (k:=sV exV (k:=aV (k:=aV (k:=WR.done (WC.rs ?_)))))))
 refine mV (k:=sV (ab rfl underlying70) (k:=mV (k:=sV bB (k:=WR.done ?_))))
 refine ciV h (fun hb12 h => ?_) (fun hb12 h => ?_)
 ·
  refine WC.region ?_
  refine sV (q_fl 0 iw) (k:=sV (ldV 2 isAgg31) (k:=mV (k:=mV (k:=?_))))
  obtain ⟨z13, hz14, h⟩ := bnd h
  refine ecV [0] (caV call134) (fun w hp => ql (hdk0.mono hl5) f_ hf_ n hn hp hz14) ?_
  rintro Γ15 _ _ hl16 ⟨row19, rfl, rfl, hr20, hr21, _⟩
  refine cwV 23 [_, _, _] ?_
  refine WR.nil ?_
  intro w hw
  obtain rfl := Option.some.inj h
  subst hF
  exact aO (is := [0]) (by kernel_rfl) hw rfl ⟨row19, rfl, rfl, hr20, trivial⟩
 refine WC.skip ?_
 intro w hw
 obtain rfl := Option.some.inj h
 subst hF
 exact aO (is := [0]) (by kernel_rfl) hw rfl ⟨rowdk0, rfl, rfl, (hdk0.mono hl5), trivial⟩
abbrev oz (gd : Nat) (ed : Nat) (rowd : Rowb) (r : List ByteArray) (U : List Rowb) (Γ : Gh) (v : Value) : Prop := ∃ (A0 : Option Addr), ∃ (c0 : Nat), ∃ (row0 : Rowb), v = .slice A0 r.length c0 ∧ U = [rowd, row0] ∧ Own strT Γ 9 row0 A0 c0 r ∧ True
theorem oQ {gd ed : Nat} {rowd : Rowb} {d : a7} (hd : a7.ob ed Γ gd rowd d) (hp : Pre [rowd] Γ w0) {r : List ByteArray} (h : gc d = some r) : Calls Tryz.prog 189 #[(pq gd)] w0 (Outc Γ [rowd] w0 (oz gd ed rowd r)) := by
 refine goV [2] func189 ntmps189 results189 hp fun F hF => ?_
 refine WC.rs (aV (k:=WR.done (WC.rs (mV (k:=sV nlV (k:=sV (q_fl 2 jF) (k:=?_)))))))
 obtain ⟨m1_1, r1_1, m2_1, r2_1, A3_1, c3_1, r3_1, hrow_1, ho0_1, ho1_1, ho2_1, ho3_1, -⟩ := id hd
 refine ufR 0 hrow_1 [_, _, _, _] ?_
 refine sV (ldV 0 isAgg90) (k:=?_)
 refine AO (ρ := mJ) vL (mb := some m2_1) rfl rfl (caV call234) ?_
 intro g2
 refine cwV 7 [_, _, _, _, _] ?_
 obtain ⟨hk3, h⟩ := ai h
 refine ecV [0, 2] (caV call233) (fun w hp => xc ho2_1 (of_decide_eq_true hk3) hp) ?_
 rintro Γ4 _ _ hl5 ⟨A8, c9, row10, rfl, rfl, ho11⟩
 refine cwV 8 [_, _, _, _, _, _] (aV (k:=WR.done ?_))
 refine WC.ret ?_
 intro w hw
 have hw := hw.fold (is := [3, 3, 1, 2]) rfl hrow_1
 exact re_ r [0, 1] h hF hw ⟨A8, c9, row10, rfl, rfl, ho11, trivial⟩
theorem iK (s_ : ByteArray) (hs_ : s_.size ≤ lim) (prefix_ : ByteArray) (hprefix_ : prefix_.size ≤ lim) (hs : Sat Γ w0) {r : Bool} (h : cC s_ prefix_ = some r) : CQ Tryz.prog 272 #[.string s_, .string prefix_] w0 (.bool r) := by
 refine goQ [4] func272 ntmps272 results272 hs fun F hF => ?_
 refine WC.rs (aV (k:=WR.done (WC.rs (mV (k:=sV (cJ rfl underlying9) (k:=mV (k:=sV (cJ rfl underlying9) (k:=?_))))))))
 refine sV kE (k:=mV (k:=vG1 (h:=fun hg1 => moV) (k:=vG1 (h:=fun hg2 => moV) (k:=vG1 (h:=fun hg3 => cJ rfl underlying9 (grV hg3)) (k:=?_)))))
 obtain ⟨hk5, h⟩ := ai h
 refine vG1 (h:=fun hg4 => sk underlying9 rfl (grV hg4) (grV hg4) (of_decide_eq_true (bg hk5 hg4))) (k:=vG1 (h:=fun hg6 => moV) (k:=vG1 (h:=fun hg7 => rC rfl (grV hg7) (grV hg7)) (k:=sV pkA (k:=aV (k:=WR.done ?_)))))
 exact WC.ret fun w hw => rq_ r h hF hw
theorem iX (s_ : ByteArray) (hs_ : s_.size ≤ lim) (prefix_ : ByteArray) (hprefix_ : prefix_.size ≤ lim) (hs : Sat Γ w0) {r : ByteArray × Bool} (h : cA s_ prefix_ = some r) : CQ Tryz.prog 235 #[.string s_, .string prefix_] w0 (.tuple #[.string r.1, .bool r.2]) := by
 refine goQ [4, 5] func235 ntmps235 results235 hs fun F hF => ?_
 refine WC.rs (aV (k:=aV (k:=WR.done (WC.seq (WC.rs (mV (k:=mV (k:=?_))))))))
 obtain ⟨z1, hz2, h⟩ := bnd h
 refine vqV (caV call272) (fun w hw => iK (Γ := Gh.all w) s_ hs_ prefix_ hprefix_ (Sat.all w) hz2) (k:=sV bu (k:=WR.done ?_))
 refine ciV h (fun hb3 h => ?_) (fun hb3 h => ?_)
 ·
  refine WC.rs (mV (k:=aV (k:=aV (k:=WR.done ?_))))
  exact WC.ret fun w hw => by obtain rfl := Option.some.inj h; exact ⟨by kernel_rfl, fr_ hF hw⟩
 refine WC.skip (wc_ (WC.rs (mV (k:=mV (k:=sV (cJ rfl underlying9) (k:=?_))))))
 obtain ⟨hk4, h⟩ := ai h
 refine sV (sw underlying9 rfl rfl rfl (of_decide_eq_true hk4)) (k:=aV (k:=aV (k:=WR.done ?_)))
 exact WC.ret fun w hw => by obtain rfl := Option.some.inj h; exact ⟨by kernel_rfl, fr_ hF hw⟩
theorem mZ (s_ : ByteArray) (hs_ : s_.size ≤ lim) (prefix_ : ByteArray) (hprefix_ : prefix_.size ≤ lim) (hs : Sat Γ w0) {r : ByteArray × Bool} (h : eI s_ prefix_ = some r) : CQ Tryz.prog 190 #[.string s_, .string prefix_] w0 (.tuple #[.string r.1, .bool r.2]) := by
 refine goQ [4, 5] func190 ntmps190 results190 hs fun F hF => ?_
 refine WC.rs (aV (k:=aV (k:=WR.done (WC.rs (mV (k:=mV (k:=?_)))))))
 obtain ⟨z1, hz2, h⟩ := bnd h
 refine vqV (caV call235) (fun w hw => iX (Γ := Gh.all w) s_ hs_ prefix_ hprefix_ (Sat.all w) hz2) (k:=sV exV (k:=sV exV (k:=aV (k:=aV (k:=WR.done ?_)))))
 exact WC.ret fun w hw => by obtain rfl := Option.some.inj h; exact ⟨by kernel_rfl, fr_ hF hw⟩
theorem kx (s_ : ByteArray) (hs_ : s_.size ≤ lim) (hs : Sat Γ w0) {r : ByteArray × ByteArray × Bool} (h : dI s_ = some r) : CQ Tryz.prog 236 #[.string s_, .string (⟨#[46]⟩ : ByteArray)] w0 (.tuple #[.string r.1, .string r.2.1, .bool r.2.2]) := by
 refine goQ [4, 5, 6] func236 ntmps236 results236 hs fun F hF => ?_
 refine WC.rs (aV (k:=aV (k:=aV (k:=WR.done (WC.seq (WC.rs (mV (k:=?_))))))))
 refine mV (k:=?_)
 obtain ⟨z1, hz2, h⟩ := bnd h
 refine vqV (caV call182) (fun w hw => fI (Γ := Gh.all w) s_ hs_ (Sat.all w) hz2) (k:=aV (k:=WR.done (WC.rs (mV (k:=sV kE (k:=WR.done ?_))))))
 refine ciV h (fun hb3 h => ?_) (fun hb3 h => ?_)
 ·
  refine WC.seq ?_
  refine drV ?_
  refine zV moV (k:=zV moV (k:=?_))
  obtain ⟨hk4, h⟩ := ai h
  refine zV (sk underlying9 rfl rfl (iG rfl hk4) (cm hk4)) (k:=zV moV (k:=zV moV (k:=zV moV (k:=zV (show QV _ _ _ _ (ii 1) from (show QV _ _ _ _ (ii (((⟨#[46]⟩ : ByteArray).size : Nat) : Int)) from cJ rfl underlying9)) (k:=zV eE (k:=?_))))))
  obtain ⟨hk5, h⟩ := ai h
  refine zV (sw underlying9 rfl rfl (iG rfl hk5) (cm hk5)) (k:=zV aoV (k:=zV aoV (k:=zV aoV (k:=?_))))
  refine WQ.nil ?_
  change WC _ _ _ _ _ _
  exact WC.ret fun w hw => by obtain rfl := Option.some.inj h; exact ⟨by kernel_rfl, fr_ hF hw⟩
 refine WC.skip (wc_ (WC.rs (mV (k:=aV (k:=aV (k:=aV (k:=WR.done ?_)))))))
 exact WC.ret fun w hw => by obtain rfl := Option.some.inj h; exact ⟨by kernel_rfl, fr_ hF hw⟩
theorem rQ (s_ : ByteArray) (hs_ : s_.size ≤ lim) (hs : Sat Γ w0) {r : ByteArray × ByteArray × Bool} (h : jr s_ = some r) : CQ Tryz.prog 191 #[.string s_, .string (⟨#[46]⟩ : ByteArray)] w0 (.tuple #[.string r.1, .string r.2.1, .bool r.2.2]) := by
 refine goQ [4, 5, 6] func191 ntmps191 results191 hs fun F hF => ?_
 refine WC.rs (aV (k:=aV (k:=aV (k:=WR.done (WC.rs (mV (k:=mV (k:=?_))))))))
 obtain ⟨z1, hz2, h⟩ := bnd h
 refine vqV (caV call236) (fun w hw => kx (Γ := Gh.all w) s_ hs_ (Sat.all w) hz2) (k:=sV exV (k:=sV exV (k:=sV exV (k:=aV (k:=aV (k:=aV (k:=WR.done ?_)))))))
 exact WC.ret fun w hw => by obtain rfl := Option.some.inj h; exact ⟨by kernel_rfl, fr_ hF hw⟩
theorem qG (s_ : ByteArray) (hs_ : s_.size ≤ lim) (hs : Sat Γ w0) {r : Int × Int} (h : gD s_ = some r) : CQ Tryz.prog 192 #[.string s_] w0 (.tuple #[ii r.1, ii r.2]) := by
 refine goQ [2, 3] func192 ntmps192 results192 hs fun F hF => ?_
 refine WC.rs (aV (k:=aV (k:=WR.done (WC.seq (WC.rs (mV (k:=sV rC (k:=?_))))))))
 refine mV (k:=vG0 (h:=fun hg1 => moV) (k:=vG0 (h:=fun hg2 => cJ rfl underlying9 (grV hg2)) (k:=vG0 (h:=fun hg3 => bB rfl (grV hg3)) (k:=vG0 (h:=fun hg4 => ay (v := .bool (decide (1 < (s_.size : Int)))) rfl (grV hg4)) (k:=vh1 (c0 := (!(s_ == ByteArray.empty))) (g := (decide (1 < (s_.size : Int)))) rfl rfl rfl rfl rfl (fun _ => QV.qo moV) ?_)))))
 obtain ⟨hk7, h⟩ := ai h
 refine vh1 (c0 := (!(s_ == ByteArray.empty))) (g := (decide (1 < (s_.size : Int)))) rfl rfl rfl rfl rfl (fun hg6 => QV.qo (yE (i := 0) underlying9 rfl (grV hg6) rfl (of_decide_eq_true (bg hk7 hg6)))) (vh1 (c0 := (!(s_ == ByteArray.empty))) (g := (decide (1 < (s_.size : Int)))) rfl rfl rfl rfl rfl (fun hg8 => QV.qo (bp rfl (grV hg8))) (vG0 (h:=fun hg9 => fU rfl (grV hg9) (kX (c := (!(s_ == ByteArray.empty))) (g := (decide (1 < (s_.size : Int)))) (y := ((((gt s_.data.toList 0).toNat : Nat) : Int) == 48)) hg9)) (k:=sV pkO (k:=mV (k:=vG0 (h:=fun hg10 => moV) (k:=vG0 (h:=fun hg11 => cJ rfl underlying9 (grV hg11)) (k:=vG0 (h:=fun hg12 => bB rfl (grV hg12)) (k:=?_))))))))
 refine sV pkO (k:=WR.done ?_)
 refine ciV h (fun hb13 h => ?_) (fun hb13 h => ?_)
 ·
  refine WC.rs (aV (k:=aV (k:=WR.done ?_)))
  exact WC.ret fun w hw => by obtain rfl := Option.some.inj h; exact ⟨by kernel_rfl, fr_ hF hw⟩
 refine WC.skip (wc_ (WC.rs (aV (k:=WR.done (WC.seq (WC.rs (mV (k:=?_))))))))
 refine zZ (src := 9) (dst := 70) (s := s_) underlying9 underlying70 underlying5 hs_ rfl rfl rfl rfl rfl ?_
 intro Γ14 A15 c16 hl17 hs18 hc19
 refine sV (ab rfl underlying70) (k:=mV (k:=WR.done (WC.block ?_)))
 refine WC.forI h (fun (i23 : Nat) (n_20 : Int) σ w => slots σ [(4, .int .u64 n_20), (25, .slice A15 (s_.data.toList).length c16), (26, ii (((s_.data.toList).length : Nat) : Int)), (27, ii (i23 : Int))] ∧ CC F Γ14 [] w ∧ U64 n_20 ∧ True) ?_ ?_
 ·
  intro w hw
  exact ⟨slK, (hw.on []), (show U64 0 by decide), trivial⟩
 rintro f22 i23 n_20 σ w hi24 hlt25 hge26 ⟨hsl, hw, hr21, -⟩
 refine slV hsl hw [] ?_; clear hw hsl
 refine WC.rs (sV aS (k:=WR.done (WC.seq ?_)))
 refine coV (fun hb27 => ?_) (fun hb27 => ?_)
 ·
  have hl28 := ilt hb27
  have h := hlt25 hl28
  refine WC.skip (wc_ (WC.seq (WC.block (WC.rs (sV (bb (i := i23) underlying70 sizeOf5 rfl rfl rfl hl28 (hs18.some_ hl28)) (k:=sV (q_ld (c := 0) (v := .int .u8 (((gt (s_.data.toList) i23).toNat : Nat) : Int)) (hs18.byteT_at hl28).2 rfl isAgg5 rfl rfl) (k:=aV (k:=?_))))))))
  refine WR.done (WC.seq (WC.rs (mV (k:=sV aS (k:=mV (k:=vG0 (h:=fun hg29 => moV) (k:=vG0 (h:=fun hg30 => bB rfl (grV hg30)) (k:=?_))))))))
  refine sV pkO (k:=WR.done ?_)
  refine ciV h (fun hb31 h => ?_) (fun hb31 h => ?_)
  ·
   refine WC.rs (aV (k:=aV (k:=WR.done ?_)))
   exact WC.ret fun w hw => by obtain rfl := Option.some.inj h; exact ⟨by kernel_rfl, fr_ hF hw⟩
  refine WC.skip (wc_ ?_)
  refine WC.region ?_
  refine mV (k:=sV ud (k:=mV (k:=sV hQ (k:=sV (gZ underlying285 underlying5) (k:=sV eE (k:=aV (k:=?_)))))))
  refine WR.nil ?_
  change WC _ _ _ _ _ _
  refine WC.region ?_
  refine sV (aC rfl rfl rfl (aP hl28 hs18.le)) (k:=mV (k:=?_))
  refine WR.nil ?_
  intro w hw
  exact ⟨hl28, (wu64 ((wu64 (10 * n_20)) + (wu64 (wu8 ((((gt (s_.data.toList) i23).toNat : Nat) : Int) - 48))))), h, slK, hw, (t6 _), trivial⟩
 have h := hge26 (ige hb27)
 refine WC.exit ?_
 change WC _ _ _ _ _ _
 refine WC.seq (WC.rs (mV (k:=sV kE (k:=WR.done ?_))))
 refine ciV h (fun hb32 h => ?_) (fun hb32 h => ?_)
 ·
  refine WC.rs (aV (k:=aV (k:=WR.done ?_)))
  exact WC.ret fun w hw => by obtain rfl := Option.some.inj h; exact ⟨by kernel_rfl, fr_ hF hw⟩
 refine WC.skip (wc_ (WC.rs (mV (k:=sV (gZ underlying2 underlying285) (k:=aV (k:=aV (k:=WR.done ?_)))))))
 exact WC.ret fun w hw => by obtain rfl := Option.some.inj h; exact ⟨by kernel_rfl, fr_ hF hw⟩
abbrev lM (J : Gh → Rowb → ag → Prop) (lY : Nat) (gb0 : Nat) (gb0v0 : Nat) (eb0v0 : Nat) (b0v0 : a7) (rowb0v0 : Rowb) (b0v1 : ByteArray) (b0v2 : Int) (r : ag) (U : List Rowb) (Γ : Gh) (v : Value) : Prop := ∃ (rowsY' : Rowb), v = .tuple #[] ∧ U = [rowsY', [(gb0, .cells #[.pointer (some ⟨gb0v0, 0, none⟩), .string b0v1, .int .i64 b0v2] 148 (0, 0))], rowb0v0] ∧ ag.ob J Γ lY rowsY' r ∧ True
theorem lP {J : Gh → Rowb → ag → Prop} {Y : ag → ByteArray → Int → Int → Option ag} {lY : Nat} (hY : ∀ {Γ : Gh} {w : World} {row : Rowb} {s s' : ag} (y0_ : ByteArray) (hy0_ : y0_.size ≤ lim) (y1_0 : Int) (hy1_0 : I64 y1_0) (y1_1 : Int) (hy1_1 : I64 y1_1) (hs : ag.ob J Γ lY row s) (hp : Pre [row] Γ w) (h : Y s y0_ y1_0 y1_1 = some s'), YieldAt (FR none) 0 Tryz.prog lY #[.string y0_, .agg #[ii y1_0, ii y1_1]] w (Outc Γ [row] w fun U Δ v => ∃ row' : Rowb, v = .bool true ∧ U = [row'] ∧ ag.ob J Δ lY row' s')) {rowsY : Rowb} {sY : ag} (hsY : ag.ob J Γ lY rowsY sY) {gb0 : Nat} {gb0v0 : Nat} {eb0v0 : Nat} {rowb0v0 : Rowb} {b0v0 : a7} (hb0v0 : a7.ob eb0v0 Γ gb0v0 rowb0v0 b0v0) (b0v1 : ByteArray) (hb0v1 : b0v1.size ≤ lim) (b0v2 : Int) (hb0v2 : I64 b0v2) (hp : Pre [rowsY, [(gb0, .cells #[(pq gb0v0), .string b0v1, ii b0v2] 148 (0, 0))], rowb0v0] Γ w0) {r : ag} (h : fm Y sY b0v0 b0v1 b0v2 = some r) : Calls Tryz.prog 188 #[.func (.yield lY) #[] #[], (pq gb0)] w0 (Outc Γ [rowsY, [(gb0, .cells #[(pq gb0v0), .string b0v1, ii b0v2] 148 (0, 0))], rowb0v0] w0 (lM J lY gb0 gb0v0 eb0v0 b0v0 rowb0v0 b0v1 b0v2 r)) := by
 refine goV [] func188 ntmps188 results188 hp fun F hF => ?_
 refine WC.rs (sV (q_fl 0 iw) (k:=sV (ldV 1 isAgg31) (k:=?_)))
 obtain ⟨z1, hz2, h⟩ := bnd h
 refine ecV [2] (caV call189) (fun w hp => oQ hb0v0 hp hz2) ?_
 rintro Γ3 _ _ hl4 ⟨A7, c8, row9, rfl, rfl, hr10, _⟩
 refine cwV 16 [_, _, _, _] (sV (ab rfl underlying232) (k:=mV (k:=WR.done (WC.block ?_))))
 refine WC.forI h (fun (i17 : Nat) (o13 : ag) σ w => ∃ (Γ11 : Gh), ∃ (row14 : Rowb), slots σ [(0, .func (.yield lY) #[] #[]), (1, (pq gb0)), (16, .slice A7 z1.length c8), (17, ii (z1.length : Int)), (18, ii (i17 : Int))] ∧ CC F Γ11 [rowb0v0, row9, row14, [(gb0, .cells #[(pq gb0v0), .string b0v1, ii b0v2] 148 (0, 0))]] w ∧ Gh.le Γ3 Γ11 ∧ ag.ob J Γ11 lY row14 o13 ∧ True) ?_ ?_
 ·
  intro w hw
  exact ⟨Γ3, rowsY, slK, hw, gR, (hsY.mono hl4), trivial⟩
 rintro f16 i17 o13 σ w hi18 hlt19 hge20 ⟨Γ11, row14, hsl, hw, hl12, ho15, -⟩
 refine slV hsl hw [_, _, _, _] ?_; clear hw hsl
 refine WC.rs (sV aS (k:=WR.done (WC.seq ?_)))
 refine coV (fun hb21 => ?_) (fun hb21 => ?_)
 ·
  have hl22 := ilt hb21
  have h := hlt19 hl22
  refine WC.skip (wc_ (WC.seq (WC.block (WC.rs (sV (bb (i := i17) underlying232 sizeOf9 rfl rfl rfl hl22 ((hr10.mono hl12).some_ hl22)) (k:=sV (qf (c := 0) (v := .string (gt z1 i17)) (i := 1) rfl ((hr10.mono hl12).strT_at hl22).2 rfl isAgg9 rfl rfl) (k:=aV (k:=?_))))))))
  refine WR.done (WC.rs (mV (k:=sV (q_fl 1 pr) (k:=sV (ldV 3 isAgg9) (k:=sV (pw rfl rfl rfl hb0v1 (show (⟨#[46]⟩ : ByteArray).size ≤ lim by decide)) (k:=?_))))))
  obtain ⟨hk23, h⟩ := ai h
  obtain ⟨z24, hz25, h⟩ := bnd h
  refine vqV (caV call190) (fun w hw => mZ (Γ := Gh.all w) (gt z1 i17) ((hr10.mono hl12).strT_at hl22).1 (b0v1 ++ (⟨#[46]⟩ : ByteArray)) (of_decide_eq_true hk23) (Sat.all w) hz25) (k:=mV (k:=sV exV (k:=sV exV (k:=aV (k:=aV (k:=WR.done (WC.rs ?_)))))))
  refine mV (k:=?_)
  obtain ⟨hk26, h⟩ := ai h
  obtain ⟨z27, hz28, h⟩ := bnd h
  refine vqV (caV call191) (fun w hw => rQ (Γ := Gh.all w) z24.1 (of_decide_eq_true hk26) (Sat.all w) hz28) (k:=mV (k:=sV exV (k:=sV exV (k:=sV exV (k:=aV (k:=aV (k:=aV (k:=?_))))))))
  refine WR.done (WC.rs (mV (k:=?_)))
  obtain ⟨hk29, h⟩ := ai h
  obtain ⟨z30, hz31, h⟩ := bnd h
  refine vqV (caV call192) (fun w hw => qG (Γ := Gh.all w) z27.1 (of_decide_eq_true hk29) (Sat.all w) hz31) (k:=mV (k:=sV exV (k:=sV exV (k:=aV (k:=aV (k:=WR.done (WC.rs ?_)))))))
  refine mV (k:=?_)
  obtain ⟨hk32, h⟩ := ai h
  obtain ⟨z33, hz34, h⟩ := bnd h
  refine vqV (caV call192) (fun w hw => qG (Γ := Gh.all w) z27.2.1 (of_decide_eq_true hk32) (Sat.all w) hz34) (k:=mV (k:=sV exV (k:=sV exV (k:=aV (k:=aV (k:=WR.done (WC.seq ?_)))))))
  refine WC.ofI (WCI.region ?_)
  refine WI.op (fun _ h => nomatch h) ?_
  refine mV (k:=?_)
  refine WI.nx ?_
  refine WI.op (fun _ h => nomatch h) ?_
  refine mV (k:=?_)
  refine WI.nx ?_
  refine WI.op (fun _ h => nomatch h) ?_
  refine vG1 (h:=fun hg35 => moV) (k:=?_)
  refine WI.nx ?_
  refine WI.op (fun _ h => nomatch h) ?_
  refine sV pkA (k:=?_)
  refine WI.nx ?_
  refine WI.op (fun _ h => nomatch h) ?_
  refine mV (k:=?_)
  refine WI.nx ?_
  refine WI.op (fun _ h => nomatch h) ?_
  refine vG1 (h:=fun hg36 => moV) (k:=?_)
  refine WI.nx ?_
  refine WI.op (fun _ h => nomatch h) ?_
  refine vG1 (h:=fun hg37 => bp rfl (grV hg37)) (k:=?_)
  refine WI.nx ?_
  refine WI.op (fun _ h => nomatch h) ?_
  refine sV pkA (k:=?_)
  refine WI.nx ?_
  refine WI.op (fun _ h => nomatch h) ?_
  refine mV (k:=?_)
  refine WI.nx ?_
  refine WI.op (fun _ h => nomatch h) ?_
  refine vG1 (h:=fun hg38 => moV) (k:=?_)
  refine WI.nx ?_
  refine WI.op (fun _ h => nomatch h) ?_
  refine vG1 (h:=fun hg39 => bp rfl (grV hg39)) (k:=?_)
  refine WI.nx ?_
  refine WI.op (fun _ h => nomatch h) ?_
  refine sV pkA (k:=?_)
  refine WI.nx ?_
  refine WI.op (fun _ h => nomatch h) ?_
  refine mV (k:=?_)
  refine WI.nx ?_
  refine WI.op (fun _ h => nomatch h) ?_
  refine vG1 (h:=fun hg40 => moV) (k:=?_)
  refine WI.nx ?_
  refine WI.op (fun _ h => nomatch h) ?_
  refine vG1 (h:=fun hg41 => gm rfl (grV hg41)) (k:=?_)
  refine WI.nx ?_
  refine WI.op (fun _ h => nomatch h) ?_
  refine sV pkA (k:=?_)
  refine WI.nx ?_
  refine WI.op (fun _ h => nomatch h) ?_
  refine mV (k:=?_)
  refine WI.nx ?_
  refine WI.op (fun _ h => nomatch h) ?_
  refine vG1 (h:=fun hg42 => moV) (k:=?_)
  refine WI.nx ?_
  refine WI.op (fun _ h => nomatch h) ?_
  refine vG1 (h:=fun hg43 => kE rfl (grV hg43)) (k:=?_)
  refine WI.nx ?_
  refine WI.op (fun _ h => nomatch h) ?_
  refine sV pkA (k:=?_)
  refine WI.nx ?_
  refine WI.op (fun _ h => nomatch h) ?_
  refine mV (k:=?_)
  refine WI.nx ?_
  refine WI.op (fun _ h => nomatch h) ?_
  refine vG1 (h:=fun hg44 => moV) (k:=?_)
  refine WI.nx ?_
  refine WI.op (fun _ h => nomatch h) ?_
  refine vG1 (h:=fun hg45 => gm rfl (grV hg45)) (k:=?_)
  refine WI.nx ?_
  refine WI.op (fun _ h => nomatch h) ?_
  refine sV pkA (k:=?_)
  refine WI.nx ?_
  refine WI.op (fun _ h => nomatch h) ?_
  refine mV (k:=?_)
  refine WI.nx ?_
  refine WI.op (fun _ h => nomatch h) ?_
  refine vG1 (h:=fun hg46 => ay (v := .func (.yield lY) #[] #[]) rfl (by kernel_rfl)) (k:=?_)
  refine WI.nx ?_
  refine WI.op (fun _ h => nomatch h) ?_
  refine vG1 (h:=fun hg47 => moV) (k:=?_)
  refine WI.nx ?_
  refine WI.op (fun _ h => nomatch h) ?_
  refine vG1 (h:=fun hg48 => moV) (k:=?_)
  refine WI.nx ?_
  refine WI.op (fun _ h => nomatch h) ?_
  refine vG1 (h:=fun hg49 => moV) (k:=?_)
  refine WI.nx ?_
  refine WI.op (fun _ h => nomatch h) ?_
  refine vG1 (h:=fun hg50 => aZ (v := .agg #[ii z30.1, ii z33.1]) rfl (iE (grV hg50) (grV hg50)) (fun w => by kernel_rfl)) (k:=?_)
  refine WI.nx ?_
  refine (Bool.eq_false_or_eq_true ((((((z24.2 && z27.2.2) && (z30.2 == 0)) && (z33.2 == 0)) && (decide (z30.1 ≤ 999999))) && (decide (1 ≤ z33.1))) && (decide (z33.1 ≤ 999999)))).elim (fun hb51 => ?_) (fun hb51 => ?_)
  ·
   have h := bt hb51 h
   refine WI.sat (c0 := true) (g := ((((((z24.2 && z27.2.2) && (z30.2 == 0)) && (z33.2 == 0)) && (decide (z30.1 ≤ 999999))) && (decide (1 ≤ z33.1))) && (decide (z33.1 ≤ 999999)))) rfl rfl rfl hb51 ?_
   obtain ⟨hk52, h⟩ := ai h
   obtain ⟨hk53, h⟩ := ai h
   obtain ⟨z54, hz55, h⟩ := bnd h
   refine WI.yield (is := [2]) rfl rfl (fun _ h => nomatch h) (sd rfl (grV hb51) (fh (grV hb51) (grV hb51))) rfl (fun w hp => hY (gt z1 i17) ((hr10.mono hl12).strT_at hl22).1 z30.1 (dQ hk52) z33.1 (dQ hk53) ho15 hp hz55) ?_
   rintro Γ56 _ _ hl57 ⟨row60, rfl, rfl, hr61⟩
   change WI _ _ _ _ (CC F Γ56 [row60, rowb0v0, row9, [(gb0, .cells #[(pq gb0v0), .string b0v1, ii b0v2] 148 (0, 0))]]) _ _ (upd _ 76 (.bool true))
   refine WI.sat (c0 := true) (g := ((((((z24.2 && z27.2.2) && (z30.2 == 0)) && (z33.2 == 0)) && (decide (z30.1 ≤ 999999))) && (decide (1 ≤ z33.1))) && (decide (z33.1 ≤ 999999)))) rfl rfl rfl hb51 ?_
   refine WI.op (fun _ h => nomatch h) ?_
   refine sV bu (k:=?_)
   refine WI.nx ?_
   refine WI.op (fun _ h => nomatch h) ?_
   refine sV (eh (v := .bool (!true)) rfl rfl hb51 (by kernel_rfl)) (k:=?_)
   refine WI.nx ?_
   refine WI.nil ?_
   change WC _ _ _ _ _ _
   refine WC.cfk (b := (!true)) (by kernel_rfl) (nott rfl) ?_
   refine WC.skip (wc_ ?_)
   refine WC.region ?_
   refine sV (aC rfl rfl rfl (aP hl22 (hr10.mono hl12).le)) (k:=mV (k:=?_))
   refine WR.nil ?_
   intro w hw
   exact ⟨hl22, z54, h, Γ56, row60, slK, (hw.on [1, 1, 0, 0]), (hl12.trans hl57), hr61, trivial⟩
  have h := bf hb51 h
  refine WI.op (fun _ h => nomatch h) ?_
  refine WR.unsat (c0 := true) (g := ((((((z24.2 && z27.2.2) && (z30.2 == 0)) && (z33.2 == 0)) && (decide (z30.1 ≤ 999999))) && (decide (1 ≤ z33.1))) && (decide (z33.1 ≤ 999999)))) rfl rfl rfl hb51 rfl ?_
  refine WI.nx ?_
  refine WI.op (fun _ h => nomatch h) ?_
  refine WR.unsat (c0 := true) (g := ((((((z24.2 && z27.2.2) && (z30.2 == 0)) && (z33.2 == 0)) && (decide (z30.1 ≤ 999999))) && (decide (1 ≤ z33.1))) && (decide (z33.1 ≤ 999999)))) rfl rfl rfl hb51 rfl ?_
  refine WI.nx ?_
  refine WI.op (fun _ h => nomatch h) ?_
  refine sV (dK (v := .bool false) rfl rfl hb51 (by kernel_rfl)) (k:=?_)
  refine WI.nx ?_
  refine WI.nil ?_
  change WC _ _ _ _ _ _
  refine WC.cfk (b := false) (by kernel_rfl) rfl ?_
  refine WC.skip (wc_ ?_)
  refine WC.region ?_
  refine sV (aC rfl rfl rfl (aP hl22 (hr10.mono hl12).le)) (k:=mV (k:=?_))
  refine WR.nil ?_
  intro w hw
  exact ⟨hl22, o13, h, Γ11, row14, slK, hw, hl12, ho15, trivial⟩
 have h := hge20 (ige hb21)
 refine WC.exit ?_
 intro w hw
 obtain rfl := Option.some.inj h
 subst hF
 exact aO (is := [2, 2, 0]) (by kernel_rfl) hw rfl ⟨row14, rfl, rfl, ho15, trivial⟩
abbrev nE (gd : Nat) (ed : Nat) (r : a7 × Int) (U : List Rowb) (Γ : Gh) (v : Value) : Prop := ∃ (rowd' : Rowb), v = .int .i64 r.2 ∧ U = [rowd'] ∧ a7.ob ed Γ gd rowd' r.1 ∧ I64 r.2 ∧ True
theorem nv {gd ed : Nat} {rowd : Rowb} {d : a7} (hd : a7.ob ed Γ gd rowd d) (name : ByteArray) (hname : name.size ≤ lim) (hp : Pre [rowd] Γ w0) {r : a7 × Int} (h : dE d name = some r) : Calls Tryz.prog 136 #[(pq gd), .string name] w0 (Outc Γ [rowd] w0 (nE gd ed r)) := by
 refine goV [4] func136 ntmps136 results136 hp fun F hF => ?_
 refine WC.rs ?_
 refine bxV (v := .string name) fun g1 => ?_
 refine aV (k:=WR.done (WC.seq (WC.rs (mV (k:=sV (ldV 0 isAgg9) (k:=?_))))))
 obtain ⟨z2, hz3, h⟩ := bnd h
 refine vqV (caV call185) (fun w hw => kQ (Γ := Gh.all w) (hd.mono hw.sat.le_all) (hw.ra 1 rfl) name hname (Sat.all w) hz3) (k:=aV (k:=WR.done (WC.rs (mV (k:=sV bZ (k:=WR.done ?_))))))
 refine ciV h (fun hb4 h => ?_) (fun hb4 h => ?_)
 ·
  refine WC.rs (mV (k:=aV (k:=WR.done ?_)))
  refine WC.ret ?_
  intro w hw
  obtain ⟨hk5, h⟩ := ai h
  obtain rfl := Option.some.inj h
  subst hF
  exact aO (is := [1]) (by kernel_rfl) hw rfl ⟨rowd, rfl, rfl, hd, (dQ hk5), trivial⟩
 refine WC.skip (wc_ (WC.rs (mV (k:=sV (jP (v := .func (.func 193) #[] #[(pq g1)]) rfl (by kernel_rfl)) (k:=sV (aZ (v := .agg #[.func (.func 193) #[] #[(pq g1)], .string ByteArray.empty, .slice none 0 0]) rfl (jN rfl) (fun w => by kernel_rfl)) (k:=?_))))))
 intro w hw; obtain ⟨Γ6, hw, hl7, hr8⟩ := hw.seal (i := 0) rfl
 have hg9 := hr8 _ (List.mem_singleton.2 rfl)
 refine WR.here (C := CC F Γ6 [_, _]) ?_ hw
 clear hw
 have hf10 : ah.ok Γ6 none g1 (ah.disk_Disk_Remove_1 name) := ⟨⟨hg9, hname⟩, trivial⟩
 obtain ⟨z11, hz12, h⟩ := bnd h
 refine ecV [1] (caV call186) (fun w hp => j9 (hd.mono hl7) (Ac_2 := none) (cc_2 := 0) (⟨(ah.disk_Disk_Remove_1 name), ByteArray.empty, []⟩ : aw) ⟨hf10, (show (ByteArray.empty : ByteArray).size ≤ lim by decide), nilV⟩ hp hz12) ?_
 rintro Γ13 _ _ hl14 ⟨row17, rfl, rfl, hr18, hr19, _⟩
 refine cwV 15 [_, _] (aV (k:=WR.done ?_))
 exact WC.ret fun w hw => re_ r [0] h hF hw ⟨row17, rfl, rfl, hr18, hr19, trivial⟩
def JRem (Γb : Gh) (l gl g3 fT : Nat) (caps : Array Value) (rowT : Rowb) (rec : Loop) (Γ : Gh) (row : Rowb) (s : ag) : Prop := ∃ (A : Option Addr) (c : Nat) (rowo : Rowb), Γb.le Γ ∧ row = ([[(l, .loop rec)], [(gl, .cells #[.slice A s.length c] 232 (0, 0))], rowo, [(g3, .cells #[.func (.func fT) #[] caps] 154 (0, 0))], rowT] : List Rowb).flatten ∧ Own strT Γ 9 rowo A c s
theorem mu {gd : Nat} {name : ByteArray} {gen : Int} (hp : Pre [] Γ w0) : Calls Tryz.prog 135 #[.agg #[(pq gd), .string name, ii gen]] w0 (Outc Γ [] w0 (fun U Δ v => ∃ g1 : Nat, v = .func (.func 188) #[] #[(pq g1)] ∧ U = [[(g1, .cells #[(pq gd), .string name, ii gen] 148 (0, 0))]])) := by
 refine goV [2] func135 ntmps135 results135 hp fun F hF => ?_
 refine WC.rs ?_
 refine bxV (v := .agg #[(pq gd), .string name, ii gen]) fun g1 => ?_
 refine aU (v := .nilFunc) (k:=?_)
 refine WR.nil ?_
 change WC _ _ _ _ _ _
 refine WC.rs (sV (jP (v := .func (.func 188) #[] #[(pq g1)]) rfl (by kernel_rfl)) (k:=aU (v := .func (.func 188) #[] #[(pq g1)]) (k:=?_)))
 refine WR.nil ?_
 change WC _ _ _ _ _ _
 refine WC.ret ?_
 intro w hw
 subst hF
 exact aO (is := [0]) (by kernel_rfl) hw rfl ⟨g1, rfl, rfl⟩
set_option maxRecDepth 100000 in
set_option maxHeartbeats 800000 in
theorem j4 {Γ : Gh} {w0 : World} {gd ed : Nat} {rowd : Rowb} {d : a7} (hd : a7.ob ed Γ gd rowd d) (name : ByteArray) (hname : name.size ≤ lim) (gen : Int) (hgen : I64 gen) {fT : Nat} {caps : Array Value} {rowT : Rowb} (pred : Int → Int → Option Bool)
  (hT : ∀ {Γ2 : Gh} {w : World} (x : Int) (hx : I64 x) (y : Int) (hy : I64 y), Γ.le Γ2 → Pre [rowT] Γ2 w → ∀ {q : Bool}, pred x y = some q → Calls Tryz.prog fT (#[ii x, ii y] ++ caps) w (fun e w' => e = .returned (.bool q) ∧ Fr no w w'))
  (eT : ∀ (args : Array Value) (w : World), (callFunc fT args).run Tryz.prog w = .ok (.enter fT args) w) (hp : Pre [rowd, rowT] Γ w0) {r : a7} (h : cd d name gen pred = some r) :
  Calls Tryz.prog 67 #[.agg #[(pq gd), .string name, ii gen], .func (.func fT) #[] caps] w0 (Outc Γ [rowd, rowT] w0 (fun U Δ v => ∃ rowd', v = .tuple #[] ∧ U = [rowd', rowT] ∧ a7.ob ed Δ gd rowd' r)) := by
 obtain ⟨z, hz, h⟩ := bnd h
 refine sv (n := 34) (rs := []) (args := [.agg #[(pq gd), .string name, ii gen], .func (.func fT) #[] caps]) func67 rfl ntmps67 results67 rfl ?_
 obtain ⟨F, hF⟩ : ∃ F : Fm, F = ⟨ids [rowd, rowT], w0, Γ⟩ := ⟨_, rfl⟩
 refine WC2.here (C := CC F Γ [rowd, rowT]) ?_ (hF ▸ hp.start)
 refine WC2.seq ?_
 refine WC.region ?_
 refine bxV (v := .agg #[(pq gd), .string name, ii gen]) fun g2 => ?_
 refine bxV (v := .func (.func fT) #[] caps) fun g3 => ?_
 refine WR.nil ?_
 change WC2 _ _ _ _ _ _
 refine WC2.seq ?_
 refine WC.region ?_
 refine alV zeroValue232 fun gl => ?_
 refine WR.nil ?_
 change WC2 _ _ _ _ _ _
 refine WC2.seq3 ?_
 refine WC.region ?_
 refine sV (ldaV 2 [(pq gd), .string name, ii gen] isAgg148 sizeOf148) (k:=?_)
 refine ecV [] (caV call135) (fun w hp => mu (gd := gd) (name := name) (gen := gen) hp) ?_
 rintro Γ1 _ _ hl1 ⟨g1, rfl, rfl⟩
 refine cwV 10 [_, _, _, _, _, _] ?_
 refine WR.nil ?_
 change WC3 _ _ _ _ _ _ _
 refine WC3.rangeF (n := 34) (gf := 188) (lb := #[(pq g1)]) (by kernel_rfl) call188 ?_
 intro l D rec w hst hpe hps has hbo hagr hw
 have hY : ∀ {Γa : Gh} {w : World} {row : Rowb} {s s' : ag} (y0_ : ByteArray) (hy0_ : y0_.size ≤ lim) (y1_0 : Int) (hy1_0 : I64 y1_0) (y1_1 : Int) (hy1_1 : I64 y1_1) (hs : ag.ob (JRem Γ l gl g3 fT caps rowT rec) Γa l row s) (hp : Pre [row] Γa w) (h : cQ pred s y0_ y1_0 y1_1 = some s'),
   YieldAt (FR none) 0 Tryz.prog l #[.string y0_, .agg #[ii y1_0, ii y1_1]] w (Outc Γa [row] w fun U Δ v => ∃ row' : Rowb, v = .bool true ∧ U = [row'] ∧ ag.ob (JRem Γ l gl g3 fT caps rowT rec) Δ l row' s') := by
  intro Γa w row s s' f hf x hx y hy hs hp h
  obtain ⟨q, hq, h⟩ := bnd h
  obtain ⟨Γ', hle, Ao, co, rowo, hgb, rfl, ho⟩ := hs
  have hgb := hgb.trans hle
  have ho := ho.mono hle
  refine YieldAt.mono (R := Outc Γa [[(l, .loop rec)], [(gl, .cells #[.slice Ao s.length co] 232 (0, 0))], rowo, [(g3, .cells #[.func (.func fT) #[] caps] 154 (0, 0))], rowT] w fun U Δ v => ∃ A2 c2 row2, v = .bool true ∧ U = [[(l, .loop rec)], [(gl, .cells #[.slice A2 s'.length c2] 232 (0, 0))], row2, [(g3, .cells #[.func (.func fT) #[] caps] 154 (0, 0))], rowT] ∧ Own strT Δ 9 row2 A2 c2 s') ?_ ?_
  ·
   refine tR has hbo hp.parts hst hpe (by rw [hps]; rfl) (N := ⟨34, []⟩) (σ1 := _) (by rw [hps]; exact hagr.par2 rfl rfl) ?_
   intro F hF
   refine WCI.rs ?_
   refine WI.op (fun _ h => nomatch h) ?_
   refine aV (k:=?_)
   refine WI.nx ?_
   refine WI.done ?_
   refine WCI.region ?_
   refine WI.op (fun _ h => nomatch h) ?_
   refine alV zeroValue236 fun g6 => ?_
   refine WI.nx ?_
   refine WI.op (fun _ h => nomatch h) ?_
   refine stV 0 (.agg #[ii x, ii y]) #[ii x, ii y] sizeOf236 (k:=?_)
   refine WI.nx ?_
   refine WI.nil ?_
   intro w hw
   have hw : Cur F Γa ([(l, .loop rec)] :: [[(g6, .cells #[ii x, ii y] 236 (0, 0))], [(gl, .cells #[.slice Ao s.length co] 232 (0, 0))], rowo, [(g3, .cells #[.func (.func fT) #[] caps] 154 (0, 0))], rowT]) w := hw.permL (List.Perm.swap _ _ _)
   refine ⟨Γa, _, hw, ?_⟩
   refine WCI.block ?_
   refine WCI.rs ?_
   refine WI.op (fun _ h => nomatch h) ?_
   refine sV (ldV 4 isAgg154) (k:=?_)
   refine WI.nx ?_
   refine WI.op (fun _ h => nomatch h) ?_
   refine sV (xJ (0) underlying236 sizeOf2 rfl rfl rfl rfl rfl) (k:=?_)
   refine WI.nx ?_
   refine WI.op (fun _ h => nomatch h) ?_
   refine sV (ldV 1 isAgg2) (k:=?_)
   refine WI.nx ?_
   refine WI.op (fun _ h => nomatch h) ?_
   refine sV (xJ (1) underlying236 sizeOf2 rfl rfl rfl rfl rfl) (k:=?_)
   refine WI.nx ?_
   refine WI.op (fun _ h => nomatch h) ?_
   refine sV (ldV 1 isAgg2) (k:=?_)
   refine WI.nx ?_
   refine WI.op (fun _ h => nomatch h) ?_
   refine vc rfl rfl rfl (bl (v := .bool q) (ee (caps := caps) (args := #[ii x, ii y] ++ caps) eT rfl (by kernel_rfl) (by kernel_rfl)) (fun w hw => (by exact hT x hx y hy hgb (hw.on [5]).pre hq))) ?_
   refine WI.nx ?_
   refine WI.done ?_
   refine WCI.cond (b := q) (by kernel_rfl) (fun hb => ?_) (fun hb => ?_)
   ·
    have h := bt hb h
    obtain ⟨hk, h⟩ := ai h
    obtain rfl := Option.some.inj h
    refine WCI.region ?_
    refine WI.op (fun _ h => nomatch h) ?_
    refine sV (ldV 2 isAgg232) (k:=?_)
    refine WI.nx ?_
    refine WI.op (fun _ h => nomatch h) ?_
    refine mV (k:=?_)
    refine WI.nx ?_
    refine WI.op (fun _ h => nomatch h) ?_
    refine bsV #[.string f] 9 fun gb => ?_
    refine WI.nx ?_
    refine WI.op (fun _ h => nomatch h) ?_
    refine apV 4 [f] xS ho (of_decide_eq_true hk) (fun w hw => dR (i := 0) rfl (by exact ⟨rfl, hf⟩) hw) ?_
    intro row2 A2 c2 ho2
    refine WI.nx ?_
    refine WI.op (fun _ h => nomatch h) ?_
    refine stV 3 (.slice A2 (s ++ [f]).length c2) #[.slice A2 (s ++ [f]).length c2] sizeOf232 (k:=?_)
    refine WI.nx ?_
    refine WI.nil ?_
    intro w hw
    exact ⟨Γa, _, hw.on [1, 2, 2, 2, 2], A2, c2, row2, rfl, rfl, ho2⟩
   have h := bf hb h
   obtain rfl := Option.some.inj h
   refine WCI.skip ?_
   intro w hw
   exact ⟨Γa, _, hw.on [0, 1, 1, 1, 1], Ao, co, rowo, rfl, rfl, ho⟩
  rintro e w2 ⟨v, rfl, Δ, U, he, A2, c2, row2, rfl, rfl, ho2⟩
  exact ⟨_, rfl, Δ, _, he.glue, _, rfl, rfl, YS.of ⟨A2, c2, row2, hgb.trans he.le, rfl, ho2⟩⟩
 have hw := hw.pad
 have h2 := hw.fold (is := [1, 3, 0, 2, 4]) rfl rfl
 have h3 : Cur F Γ1 ([([[(l, .loop rec)], [(gl, .cells #[.slice none 0 0] 232 (0, 0))], [], [(g3, .cells #[.func (.func fT) #[] caps] 154 (0, 0))], rowT] : List Rowb).flatten, [(g1, .cells #[(pq gd), .string name, ii gen] 148 (0, 0))], rowd] ++ [[(D, .deferred (some []))], [(g2, .cells #[(pq gd), .string name, ii gen] 148 (0, 0))]]) w := h2.pick (is := [0, 1, 2]) rfl
 refine (lP (J := JRem Γ l gl g3 fT caps rowT rec) (Y := cQ pred) (lY := l) (sY := []) hY (YS.of ⟨none, 0, [], hl1, rfl, Own.nil _ _ _⟩) (hd.mono hl1) name hname gen hgen (h2.only (is := [0, 1, 2]) rfl).pre hz).mono ?_
 rintro e w' ⟨v, rfl, Δ, U', he, rowY', rfl, rfl, hJ', -⟩
 have h4 := h3.eff he
 obtain ⟨Γ', hle, A', c', rowo', -, hrow, ho'⟩ := hJ'
 have ho' := ho'.mono hle
 have h5 := h4.unfold (i := 0) rfl hrow
 have hd' := (hd.mono hl1).mono he.le
 refine ⟨_, rfl, Δ, [[(gl, .cells #[.slice A' z.length c'] 232 (0, 0))], rowo', rowT, rowd, [(g2, .cells #[(pq gd), .string name, ii gen] 148 (0, 0))]], h5.only (is := [0, 6, 0, 0, 1, 2, 2]) rfl, ?_⟩
 refine WC2.of ?_
 refine WC.rs (sV (ldV 1 isAgg232) (k:=sV (ab rfl underlying232) (k:=mV (k:=?_))))
 refine WR.nil ?_
 change WC _ _ _ _ _ _
 refine WC.block ?_
 refine WC.forI h (fun (i : Nat) (x : a7) σ w => ∃ (Γ2 : Gh) (rowd2 : Rowb), slots σ [(2, (pq g2)), (23, .slice A' z.length c'), (24, ii (z.length : Int)), (25, ii (i : Int))] ∧ CC F Γ2 [[(D, .deferred (some []))], [(gl, .cells #[.slice A' z.length c'] 232 (0, 0))], rowo', rowT, rowd2, [(g2, .cells #[(pq gd), .string name, ii gen] 148 (0, 0))]] w ∧ Gh.le Δ Γ2 ∧ a7.ob ed Γ2 gd rowd2 x ∧ True) ?_ ?_
 ·
  intro w hw
  exact ⟨Δ, rowd, slK, hw, gR, hd', trivial⟩
 rintro f11 i x σ w hi13 hlt14 hge15 ⟨Γ2, rowd2, hsl, hw, hl5, hd2, -⟩
 refine slV hsl hw [_, _, _, _, _, _] ?_; clear hw hsl
 refine WC.rs (sV aS (k:=?_))
 refine WR.nil ?_
 change WC _ _ _ _ _ _
 refine WC.seq ?_
 refine coV (fun hb16 => ?_) (fun hb16 => ?_)
 ·
  have hl17 := ilt hb16
  have h := hlt14 hl17
  refine WC.skip (wc_ (WC.seq (WC.block (WC.rs (sV (bb (i := i) underlying232 sizeOf9 rfl rfl rfl hl17 ((ho'.mono hl5).some_ hl17)) (k:=sV (qf (c := 0) (v := .string (gt z i)) (i := 2) rfl ((ho'.mono hl5).strT_at hl17).2 rfl isAgg9 rfl rfl) (k:=aV (k:=?_))))))))
  refine WR.nil ?_
  change WC _ _ _ _ _ _
  refine WC.region ?_
  refine sV (q_fl 0 iw) (k:=sV (ldV 5 isAgg31) (k:=mV (k:=?_)))
  obtain ⟨y, hy, h⟩ := bnd h
  refine ecV [4] (caV call136) (fun w hp => nv hd2 (gt z i) ((ho'.mono hl5).strT_at hl17).1 hp hy) ?_
  rintro Γ3 _ _ hl3 ⟨rowd3, rfl, rfl, hd3, hr3, -⟩
  refine cwV 32 [_, _, _, _, _, _] ?_
  refine WR.nil ?_
  change WC _ _ _ _ _ _
  refine WC.region ?_
  refine sV (aC rfl rfl rfl (aP hl17 ho'.le)) (k:=mV (k:=?_))
  refine WR.nil ?_
  intro w hw
  exact ⟨hl17, y.1, h, Γ3, rowd3, slK, hw.on [1, 1, 1, 1, 0, 0], hl5.trans hl3, hd3, trivial⟩
 have h := hge15 (ige hb16)
 obtain rfl := Option.some.inj h
 refine WC.exit ?_
 intro w hw
 subst hF
 exact Bk (N := ⟨34, []⟩) (is := [3, 2]) (by kernel_rfl) hw rfl ⟨rowd2, rfl, rfl, hd2⟩
abbrev qn (gb0 : Nat) (b0v : Int) (r : Bool) (U : List Rowb) (Γ : Gh) (v : Value) : Prop := v = .bool r ∧ U = [[(gb0, .cells #[.int .i64 b0v] 2 (0, 0))]] ∧ True
theorem qq (g_ : Int) (hg_ : I64 g_) (a1 : Int) (ha1 : I64 a1) {gb0 : Nat} (b0v : Int) (hb0v : I64 b0v) (hp : Pre [[(gb0, .cells #[ii b0v] 2 (0, 0))]] Γ w0) {r : Bool} (h : fH g_ a1 b0v = some r) : Calls Tryz.prog 68 #[ii g_, ii a1, (pq gb0)] w0 (Outc Γ [[(gb0, .cells #[ii b0v] 2 (0, 0))]] w0 (qn gb0 b0v r)) := by
 refine goV [5] func68 ntmps68 results68 hp fun F hF => ?_
 refine WC.rs (aV (k:=WR.done (WC.rs (mV (k:=sV (ldV 0 isAgg2) (k:=sV bZ (k:=aV (k:=?_))))))))
 refine WR.done ?_
 exact WC.ret fun w hw => re_ r [0] h hF hw ⟨rfl, rfl, trivial⟩
theorem oA (n : Int) (hn : I64 n) (hs : Sat Γ w0) {r : ByteArray} (h : iQ n = some r) : CQ Tryz.prog 194 #[ii n] w0 (.string r) := by
 refine goQ [2] func194 ntmps194 results194 hs fun F hF => ?_
 refine WC.rs (aV (k:=WR.done (WC.rs ?_)))
 refine alV zeroValue337 fun g1 => ?_
 have ho2 : Own av Γ 337 [(g1, .cells #[.int .u8 0, .int .u8 0, .int .u8 0, .int .u8 0, .int .u8 0, .int .u8 0, .int .u8 0, .int .u8 0, .int .u8 0, .int .u8 0, .int .u8 0, .int .u8 0, .int .u8 0, .int .u8 0, .int .u8 0, .int .u8 0, .int .u8 0, .int .u8 0, .int .u8 0, .int .u8 0] 337 (0, 0))] (some ⟨g1, 0, none⟩) 20 (List.replicate 20 (b8 0)) := yp (T := av) 20 [.int .u8 0] (b8 0) rfl (by show [Value.int .u8 0] = [Value.int .u8 _]; rw [nB (by decide)]) (by decide)
 refine WR.done (WC.rs (aV (k:=WR.done (WC.rs (mV (k:=sV (gZ underlying285 underlying2) (k:=aV (k:=?_))))))))
 refine WR.done ?_
 refine WC.cut (fun σ w => ∃ (u_3 : Int), ib n u_3 = some r ∧ slots σ [(0, ii n), (3, (pq g1)), (4, ii 20), (5, .int .u64 u_3)] ∧ CC F Γ [[(g1, .cells #[.int .u8 0, .int .u8 0, .int .u8 0, .int .u8 0, .int .u8 0, .int .u8 0, .int .u8 0, .int .u8 0, .int .u8 0, .int .u8 0, .int .u8 0, .int .u8 0, .int .u8 0, .int .u8 0, .int .u8 0, .int .u8 0, .int .u8 0, .int .u8 0, .int .u8 0, .int .u8 0] 337 (0, 0))]] w ∧ U64 u_3 ∧ True) ?_ ?_
 ·
  refine WC.rs (mV (k:=sV aS (k:=WR.done ?_)))
  refine ciV h (fun hb5 h => ?_) (fun hb5 h => ?_)
  ·
   refine WC.region ?_
   refine mV (k:=sV AB (k:=aV (k:=?_)))
   refine WR.nil ?_
   intro w hw
   exact ⟨(wu64 (0 - (wu64 n))), h, slK, hw, (t6 _), trivial⟩
  refine WC.skip ?_
  intro w hw
  exact ⟨(wu64 n), h, slK, hw, (t6 _), trivial⟩
 rintro σ w ⟨u_3, h, hsl, hw, hr4, -⟩
 refine slV hsl hw [_] ?_; clear hw hsl
 refine WC.seq (WC.block ?_)
 refine WC.loopN h (fun (s : Int × Int × (List UInt8)) σ w => match s with | (at_6, u_8, x10) => ∃ (row11 : Rowb), slots σ [(0, ii n), (3, (pq g1)), (4, ii at_6), (5, .int .u64 u_8)] ∧ CC F Γ [row11] w ∧ I64 at_6 ∧ U64 u_8 ∧ x10.length = 20 ∧ Own av Γ 337 row11 (some ⟨g1, 0, none⟩) 20 x10 ∧ True) ?_ ?_
 ·
  intro w hw
  exact ⟨[(g1, .cells #[.int .u8 0, .int .u8 0, .int .u8 0, .int .u8 0, .int .u8 0, .int .u8 0, .int .u8 0, .int .u8 0, .int .u8 0, .int .u8 0, .int .u8 0, .int .u8 0, .int .u8 0, .int .u8 0, .int .u8 0, .int .u8 0, .int .u8 0, .int .u8 0, .int .u8 0, .int .u8 0] 337 (0, 0))], slK, hw, iV, hr4, List.length_replicate, ho2, trivial⟩
 rintro f14 ⟨at_6, u_8, x10⟩ σ w h ⟨row11, hsl, hw, hr7, hr9, hn13, ho12, -⟩
 refine slV hsl hw [_] ?_; clear hw hsl
 refine WC.seq (WC.rs (mV (k:=sV bp (k:=mV (k:=vG0 (h:=fun hg18 => moV) (k:=vG0 (h:=fun hg19 => bB rfl (grV hg19)) (k:=sV pkO (k:=?_))))))))
 refine WR.done ?_
 refine ciV h (fun hb20 h => ?_) (fun hb20 h => ?_)
 ·
  refine WC.skip (wc_ (WC.block (WC.rs (mV (k:=sV hQ (k:=aV (k:=WR.done ?_)))))))
  refine WC.rs (mV (k:=mV (k:=sV (vZ rfl rfl rfl (by decide)) (k:=sV eE (k:=sV (gZ underlying5 underlying285) (k:=?_))))))
  obtain ⟨hk21, h⟩ := ai h
  refine sV (yA underlying337 sizeOf5 rfl rfl rfl hk21) (k:=?_)
  refine ma (T := av) (q := (w64 (at_6 - 1)).toNat) (v := .int .u8 (wu8 (wu64 (48 + (u_8.tmod 10))))) (y := (b8 (wu8 (wu64 (48 + (u_8.tmod 10)))))) rfl rfl rfl rfl (by kernel_rfl) sizeOf5 (by exact (by show [Value.int .u8 (wu8 (wu64 (48 + (u_8.tmod 10))))] = [Value.int .u8 _]; rw [nB (yU _)])) (i := 0) rfl ho12 (ltq (bG hk21) hn13.symm) ?_
  intro row22 ho23
  refine WR.done ?_
  refine WC.region ?_
  refine mV (k:=sV (C2 rfl rfl rfl (by decide)) (k:=aV (k:=?_)))
  refine WR.nil ?_
  intro w hw
  exact ⟨((w64 (at_6 - 1)), (wu64 (u_8.tdiv 10)), (List.set x10 ((w64 (at_6 - 1)).toNat) (b8 (wu8 (wu64 (48 + (u_8.tmod 10))))))), h, row22, slK, hw, (iA _), (t6 _), (List.length_set.trans hn13), ho23, trivial⟩
 refine WC.exit ?_
 change WC _ _ _ _ _ _
 refine WC.cut (fun σ w => ∃ (at_24 : Int), ∃ (x26 : List UInt8), ∃ (row27 : Rowb), fE at_24 x26 = some r ∧ slots σ [(3, (pq g1)), (4, ii at_24)] ∧ CC F Γ [row27] w ∧ I64 at_24 ∧ x26.length = 20 ∧ Own av Γ 337 row27 (some ⟨g1, 0, none⟩) 20 x26 ∧ True) ?_ ?_
 ·
  refine WC.rs (mV (k:=sV aS (k:=WR.done ?_)))
  refine ciV h (fun hb30 h => ?_) (fun hb30 h => ?_)
  ·
   refine WC.rs (mV (k:=sV hQ (k:=aV (k:=WR.done ?_))))
   refine WC.region ?_
   refine mV (k:=?_)
   obtain ⟨hk31, h⟩ := ai h
   refine sV (yA underlying337 sizeOf5 rfl rfl rfl hk31) (k:=?_)
   refine ma (T := av) (q := (w64 (at_6 - 1)).toNat) (v := .int .u8 45) (y := (b8 45)) rfl rfl rfl rfl (by kernel_rfl) sizeOf5 (by exact (by show [Value.int .u8 45] = [Value.int .u8 _]; rw [nB (by decide)])) (i := 0) rfl ho12 (ltq (bG hk31) hn13.symm) ?_
   intro row32 ho33
   refine WR.nil ?_
   intro w hw
   exact ⟨(w64 (at_6 - 1)), (List.set x10 ((w64 (at_6 - 1)).toNat) (b8 45)), row32, h, slK, hw, (iA _), (List.length_set.trans hn13), ho33, trivial⟩
  refine WC.skip ?_
  intro w hw
  exact ⟨at_6, x10, row11, h, slK, hw, hr7, hn13, ho12, trivial⟩
 rintro σ w ⟨at_24, x26, row27, h, hsl, hw, hr25, hn29, ho28, -⟩
 refine slV hsl hw [_] ?_; clear hw hsl
 refine WC.rs (mV (k:=?_))
 obtain ⟨hk34, h⟩ := ai h
 refine sV (tw (lo := at_24.toNat) (xs := x26) underlying337 sizeOf5 rfl rfl (iG rfl hk34) hn29 (cm hk34)) (k:=sV (zf (i := 0) (lo := at_24.toNat) rfl (ho28) underlying70 underlying5 underlying9 rfl rfl (Nat.le_of_eq hn29)) (k:=aV (k:=WR.done ?_)))
 exact WC.ret fun w hw => rq_ r h hF hw
theorem jS {gp__0 : Nat} (p__1 : ByteArray) (hp__1 : p__1.size ≤ lim) (p__2 : Int) (hp__2 : I64 p__2) (gen : Int) (hgen : I64 gen) (part : Int) (hpart : I64 part) (hs : Sat Γ w0) {r : ByteArray} (h : cH p__1 p__2 gen part = some r) : CQ Tryz.prog 137 #[.agg #[(pq gp__0), .string p__1, ii p__2], ii gen, ii part] w0 (.string r) := by
 refine goQ [6] func137 ntmps137 results137 hs fun F hF => ?_
 refine WC.rs ?_
 refine bxV (v := .agg #[(pq gp__0), .string p__1, ii p__2]) fun g1 => ?_
 refine aV (k:=WR.done (WC.seq ?_))
 refine drV ?_
 refine zV (q_fl 1 pr) (k:=zV (ldV 0 isAgg9) (k:=zV (pw rfl rfl rfl hp__1 (show (⟨#[46]⟩ : ByteArray).size ≤ lim by decide)) (k:=zV moV (k:=?_))))
 obtain ⟨z2, hz3, h⟩ := bnd h
 refine wc rfl rfl rfl (bl (caV call194) (fun w hw => oA (Γ := Gh.all w) gen hgen (Sat.all w) hz3)) ?_
 obtain ⟨hk4, h⟩ := ai h
 obtain ⟨hk5, h⟩ := ai h
 refine zV (pw rfl rfl rfl (of_decide_eq_true hk4) (of_decide_eq_true hk5)) (k:=?_)
 obtain ⟨hk6, h⟩ := ai h
 refine zV (pw rfl rfl rfl (of_decide_eq_true hk6) (show (⟨#[46]⟩ : ByteArray).size ≤ lim by decide)) (k:=zV moV (k:=?_))
 obtain ⟨z7, hz8, h⟩ := bnd h
 refine wc rfl rfl rfl (bl (caV call194) (fun w hw => oA (Γ := Gh.all w) part hpart (Sat.all w) hz8)) ?_
 obtain ⟨hk9, h⟩ := ai h
 obtain ⟨hk10, h⟩ := ai h
 refine zV (pw rfl rfl rfl (of_decide_eq_true hk9) (of_decide_eq_true hk10)) (k:=zV aoV (k:=?_))
 refine WQ.nil ?_
 change WC _ _ _ _ _ _
 exact WC.ret fun w hw => rq_ r h hF hw
abbrev oV (gl : Nat) (el : Nat × Nat) (edk0 : Nat) (r : af × a7 × (List (List UInt8))) (U : List Rowb) (Γ : Gh) (v : Value) : Prop := ∃ (rowl' : Rowb), ∃ (rowdk0' : Rowb), ∃ (A0 : Option Addr), ∃ (c0 : Nat), ∃ (row0 : Rowb), v = .slice A0 r.2.2.length c0 ∧ U = [rowl', rowdk0', row0] ∧ af.ob el Γ gl rowl' r.1 ∧ a7.ob edk0 Γ el.2 rowdk0' r.2.1 ∧ Own (slT av) Γ 70 row0 A0 c0 r.2.2 ∧ True
theorem o9 {gl : Nat} {el : Nat × Nat} {rowl : Rowb} {l : af} (hl : af.ob el Γ gl rowl l) {edk0 : Nat} {rowdk0 : Rowb} {dk0 : a7} (hdk0 : a7.ob edk0 Γ el.2 rowdk0 dk0) (hp : Pre [rowl, rowdk0] Γ w0) {r : af × a7 × (List (List UInt8))} (h : gn l dk0 = some r) : Calls Tryz.prog 69 #[(pq gl)] w0 (Outc Γ [rowl, rowdk0] w0 (oV gl el edk0 r)) := by
 refine goV [2] func69 ntmps69 results69 hp fun F hF => ?_
 refine WC.rs (aV (k:=WR.done (WC.rs (aV (k:=WR.done ?_)))))
 refine WC.cut (fun σ w => ∃ (out_3 : List (List UInt8)), ∃ (o8 : af), ∃ (o11 : a7), ∃ (Γ1 : Gh), ∃ (A4 : Option Addr), ∃ (c5 : Nat), ∃ (row6 : Rowb), ∃ (row9 : Rowb), ∃ (row12 : Rowb), d5 out_3 o8 o11 = some r ∧ slots σ [(0, (pq gl)), (3, .slice A4 out_3.length c5)] ∧ CC F Γ1 [row6, row9, row12] w ∧ Gh.le Γ Γ1 ∧ Own (slT av) Γ1 70 row6 A4 c5 out_3 ∧ af.ob el Γ1 gl row9 o8 ∧ a7.ob edk0 Γ1 el.2 row12 o11 ∧ True) ?_ ?_
 ·
  refine WC.rs (aV (k:=WR.done (WC.block ?_)))
  refine WC.loopN h (fun (s : (List (List UInt8)) × Bool × af × a7) σ w => match s with | (out_16, whole_21, o22, o25) => ∃ (Γ14 : Gh), ∃ (A17 : Option Addr), ∃ (c18 : Nat), ∃ (row19 : Rowb), ∃ (row23 : Rowb), ∃ (row26 : Rowb), slots σ [(0, (pq gl)), (3, .slice A17 out_16.length c18), (4, .bool whole_21)] ∧ CC F Γ14 [row19, row23, row26] w ∧ Gh.le Γ Γ14 ∧ Own (slT av) Γ14 70 row19 A17 c18 out_16 ∧ af.ob el Γ14 gl row23 o22 ∧ a7.ob edk0 Γ14 el.2 row26 o25 ∧ True) ?_ ?_
  ·
   intro w hw
   have hw := hw.pad
   exact ⟨Γ, none, 0, [], rowl, rowdk0, slK, hw, gR, (Own.nil (slT av) _ 70), hl, hdk0, trivial⟩
  rintro f28 ⟨out_16, whole_21, o22, o25⟩ σ w h ⟨Γ14, A17, c18, row19, row23, row26, hsl, hw, hl15, ho20, ho24, ho27, -⟩
  refine slV hsl hw [_, _, _] ?_; clear hw hsl
  refine WC.seq (WC.rs (mV (k:=mV (k:=vG1 (h:=fun hg32 => moV) (k:=vG1 (h:=fun hg33 => nlV (hv:=grV hg33)) (k:=vG1 (h:=fun hg34 => q_fl 4 ja rfl (grV hg34)) (k:=?_)))))))
  obtain ⟨hrow_36, ho0_36, ho1_36, ho2_36, ho3_36, ho4_36, ho5_36, ho6_36, -⟩ := id ho24
  refine ufR 1 hrow_36 [_, _, _] ?_
  refine vG1 (h:=fun hg37 => ldV 0 isAgg2 (hx:=grV hg37)) (k:=vG1 (h:=fun hg38 => aS rfl (grV hg38)) (k:=sV pkA (k:=WR.done ?_)))
  refine ciV h (fun hb39 h => ?_) (fun hb39 h => ?_)
  ·
   refine WC.skip (wc_ (WC.block (WC.seq ?_)))
   refine drV ?_
   refine zV moV (k:=zV nlV (k:=zV (q_fl 0 ix) (k:=zV (ldaV 0 [.pointer (some ⟨el.2, 0, none⟩), .string o22.place_name, ii o22.place_gen] isAgg148 sizeOf148) (k:=zV moV (k:=zV nlV (k:=zV (q_fl 0 ix) (k:=zV (q_fl 2 ph) (k:=?_))))))))
   refine zV (ldV 0 isAgg2) (k:=zV moV (k:=zV nlV (k:=zV (q_fl 4 ja) (k:=zV (ldV 0 isAgg2) (k:=zV eE (k:=?_))))))
   obtain ⟨z40, hz41, h⟩ := bnd h
   refine wc rfl rfl rfl (bl (caV call137) (fun w hw => jS (Γ := Gh.all w) (gp__0 := el.2) o22.place_name ho0_36 o22.place_gen ho1_36 o22.place_gen ho1_36 (w64 (o22.last + 1)) (iA _) (Sat.all w) hz41)) (zV aoV (k:=?_))
   refine WQ.nil ?_
   change WC _ _ _ _ _ _
   refine WC.rs (mV (k:=sV nlV (k:=sV (q_fl 0 ix) (k:=sV (q_fl 0 iw) (k:=sV (ldV 0 isAgg31) (k:=mV (k:=?_)))))))
   obtain ⟨hk42, h⟩ := ai h
   obtain ⟨z43, hz44, h⟩ := bnd h
   refine ecV [2] (caV call131) (fun w hp => jd ho27 z40 (of_decide_eq_true hk42) hp hz44) ?_
   rintro Γ45 _ _ hl46 ⟨A49, c50, row51, rfl, rfl, hr52, _⟩
   refine cwV 41 [_, _, _, _] (mV (k:=sV exV (k:=sV exV (k:=aV (k:=aV (k:=WR.done (WC.seq ?_)))))))
   refine WC.rs (mV (k:=sV bu (k:=WR.done ?_)))
   refine ciV h (fun hb53 h => ?_) (fun hb53 h => ?_)
   ·
    refine WC.exit ?_
    intro w hw
    have hw := hw.fold (is := [2]) rfl hrow_36
    exact ⟨out_16, o22, o25, Γ45, A17, c18, row19, row23, row26, h, slK, (hw.on [3, 0, 0]), (hl15.trans hl46), (ho20.mono hl46), (ho24.mono hl46), (ho27.mono hl46), trivial⟩
   refine WC.skip (wc_ (WC.rs (mV (k:=?_))))
   have hc59 := hr52.capz
   refine seR 1 [_, _, _, _] fun Γ55 hl56 hr57 => ?_
   have hs58 := hr52.sl hl56 hr57
   obtain ⟨z60, hz61, h⟩ := bnd h
   refine ecV [] (caV call132) (fun w hp => qi hs58 hc59 hp hz61) ?_
   rintro Γ62 _ _ hl63 ⟨A66, c67, row68, rfl, rfl, hr69, hr70, hr71, _⟩
   refine cwV 48 [_, _, _, _, _] (mV (k:=sV exV (k:=sV exV (k:=sV exV (k:=aV (k:=aV (k:=aV (k:=?_))))))))
   refine WR.done (WC.rs (mV (k:=mV (k:=sV (ab rfl underlying70) (k:=sV bp (k:=aV (k:=WR.done ?_)))))))
   refine WC.rs (mV (k:=sV nlV (k:=sV (q_fl 0 ix) (k:=sV (ldaV 3 [.pointer (some ⟨el.2, 0, none⟩), .string o22.place_name, ii o22.place_gen] isAgg148 sizeOf148) (k:=mV (k:=mV (k:=?_)))))))
   obtain ⟨z72, hz73, h⟩ := bnd h
   refine ecV [1] (caV call65) (fun w hp => iS (gp__0 := el.2) o22.place_name ho0_36 o22.place_gen ho1_36 z40 (of_decide_eq_true hk42) z60.2.1 hr70 (ho27.mono ((hl46.trans hl56).trans hl63)) hp hz73) ?_
   rintro Γ74 _ _ hl75 ⟨row78, rfl, rfl, hr79, _⟩
   refine cwV 62 [_, _, _, _, _] (WR.done (WC.rs (mV (k:=mV (k:=?_)))))
   obtain ⟨hk80, h⟩ := ai h
   refine apV 4 z60.1 vN (ho20.mono (((hl46.trans hl56).trans hl63).trans hl75)) (of_decide_eq_true hk80) (fun w hw => lA (i := 1) rfl (hr69.mono hl75) hw) ?_
   intro row81 A82 c83 ho84
   refine aV (k:=WR.done (WC.rs (mV (k:=mV (k:=mV (k:=sV nlV (k:=sV (q_fl 4 ja) (k:=?_))))))))
   refine sV (ldV 3 isAgg2) (k:=sV eE (k:=mV (k:=sV nlV (k:=sV (q_fl 4 ja) (k:=stV 3 (ii (w64 (o22.last + 1))) #[.pointer (some ⟨el.2, 0, none⟩), .string o22.place_name, ii o22.place_gen, ii o22.size, ii (w64 (o22.last + 1)), ii o22.tail, ii o22.count, ii o22.bytes] sizeOf2 (k:=sV nlV (k:=sV (q_fl 5 pG) (k:=?_))))))))
   refine stV 3 (ii z60.2.1) #[.pointer (some ⟨el.2, 0, none⟩), .string o22.place_name, ii o22.place_gen, ii o22.size, ii (w64 (o22.last + 1)), ii z60.2.1, ii o22.count, ii o22.bytes] sizeOf3 (k:=WR.done ?_)
   refine WC.region ?_
   refine mV (k:=sV nlV (k:=sV (q_fl 7 mS) (k:=sV (ldV 3 isAgg3) (k:=mV (k:=sV eE (k:=sV nlV (k:=sV (q_fl 7 mS) (k:=?_))))))))
   refine stV 3 (ii (w64 (o22.bytes + z60.2.1))) #[.pointer (some ⟨el.2, 0, none⟩), .string o22.place_name, ii o22.place_gen, ii o22.size, ii (w64 (o22.last + 1)), ii z60.2.1, ii o22.count, ii (w64 (o22.bytes + z60.2.1))] sizeOf3 (k:=?_)
   refine WR.nil ?_
   intro w hw
   obtain ⟨row_85, hrow_85, hob_85⟩ : ∃ rw : Rowb, rw = ([[(gl, .cells #[.pointer (some ⟨el.2, 0, none⟩), .string o22.place_name, ii o22.place_gen, ii o22.size, ii (w64 (o22.last + 1)), ii z60.2.1, ii o22.count, ii (w64 (o22.bytes + z60.2.1))] el.1 (0, 0))]] : List Rowb).flatten ∧ af.ob el Γ74 gl rw (⟨o22.place_name, o22.place_gen, o22.size, (w64 (o22.last + 1)), z60.2.1, o22.count, (w64 (o22.bytes + z60.2.1))⟩ : af) := ⟨_, rfl, rfl, ho0_36, ho1_36, ho2_36, (iA _), hr70, ho5_36, (iA _), trivial⟩
   have hw := hw.fold (is := [3]) rfl hrow_85
   exact ⟨((out_16 ++ z60.1), (z60.2.1 == (z43.1.length : Int)), (⟨o22.place_name, o22.place_gen, o22.size, (w64 (o22.last + 1)), z60.2.1, o22.count, (w64 (o22.bytes + z60.2.1))⟩ : af), z72), h, Γ74, A82, c83, row81, row_85, row78, slK, (hw.on [4, 0, 0]), ((((hl15.trans hl46).trans hl56).trans hl63).trans hl75), ho84, hob_85, hr79, trivial⟩
  refine WC.exit ?_
  intro w hw
  have hw := hw.fold (is := [0]) rfl hrow_36
  exact ⟨out_16, o22, o25, Γ14, A17, c18, row19, row23, row26, h, slK, (hw.on [1, 0, 0]), hl15, ho20, ho24, ho27, trivial⟩
 rintro σ w ⟨out_3, o8, o11, Γ1, A4, c5, row6, row9, row12, h, hsl, hw, hl2, ho7, ho10, ho13, -⟩
 refine slV hsl hw [_, _, _] ?_; clear hw hsl
 refine WC.rs (mV (k:=mV (k:=sV (ab rfl underlying76) (k:=sV nlV (k:=sV (q_fl 6 pN) (k:=?_))))))
 obtain ⟨hrow_87, ho0_87, ho1_87, ho2_87, ho3_87, ho4_87, ho5_87, ho6_87, -⟩ := id ho10
 refine ufR 1 hrow_87 [_, _, _] ?_
 refine stV 0 (ii (out_3.length : Int)) #[.pointer (some ⟨el.2, 0, none⟩), .string o8.place_name, ii o8.place_gen, ii o8.size, ii o8.last, ii o8.tail, ii (out_3.length : Int), ii o8.bytes] sizeOf3 (k:=WR.done (WC.rs (mV (k:=aV (k:=WR.done ?_)))))
 refine WC.ret ?_
 intro w hw
 obtain ⟨row_88, hrow_88, hob_88⟩ : ∃ rw : Rowb, rw = ([[(gl, .cells #[.pointer (some ⟨el.2, 0, none⟩), .string o8.place_name, ii o8.place_gen, ii o8.size, ii o8.last, ii o8.tail, ii (out_3.length : Int), ii o8.bytes] el.1 (0, 0))]] : List Rowb).flatten ∧ af.ob el Γ1 gl rw (⟨o8.place_name, o8.place_gen, o8.size, o8.last, o8.tail, (out_3.length : Int), o8.bytes⟩ : af) := ⟨_, rfl, rfl, ho0_87, ho1_87, ho2_87, ho3_87, ho4_87, (lX ho7.le), ho6_87, trivial⟩
 have hw := hw.fold (is := [0]) rfl hrow_88
 obtain rfl := Option.some.inj h
 subst hF
 exact aO (is := [0, 1, 0]) (by kernel_rfl) hw rfl ⟨row_88, row12, A4, c5, row6, rfl, rfl, hob_88, ho13, ho7, trivial⟩
abbrev qu (gb0 : Nat) (gb0v : Nat) (eb0v : Nat × Nat) (b0v : af) (rowb0v : Rowb) (r : Bool) (U : List Rowb) (Γ : Gh) (v : Value) : Prop := v = .bool r ∧ U = [[(gb0, .cells #[.pointer (some ⟨gb0v, 0, none⟩)] 75 (0, 0))], rowb0v] ∧ True
theorem qm (a0 : Int) (ha0 : I64 a0) (n : Int) (hn : I64 n) {gb0 : Nat} {gb0v : Nat} {eb0v : Nat × Nat} {rowb0v : Rowb} {b0v : af} (hb0v : af.ob eb0v Γ gb0v rowb0v b0v) (hp : Pre [[(gb0, .cells #[(pq gb0v)] 75 (0, 0))], rowb0v] Γ w0) {r : Bool} (h : ik a0 n b0v = some r) : Calls Tryz.prog 70 #[ii a0, ii n, (pq gb0)] w0 (Outc Γ [[(gb0, .cells #[(pq gb0v)] 75 (0, 0))], rowb0v] w0 (qu gb0 gb0v eb0v b0v rowb0v r)) := by
 refine goV [5] func70 ntmps70 results70 hp fun F hF => ?_
 refine WC.rs (aV (k:=WR.done (WC.rs (mV (k:=sV (ldV 0 isAgg75) (k:=sV nlV (k:=sV (q_fl 4 ja) (k:=?_))))))))
 obtain ⟨hrow_1, ho0_1, ho1_1, ho2_1, ho3_1, ho4_1, ho5_1, ho6_1, -⟩ := id hb0v
 refine ufR 1 hrow_1 [_, _] ?_
 refine sV (ldV 0 isAgg2) (k:=sV bB (k:=aV (k:=WR.done ?_)))
 refine WC.ret ?_
 intro w hw
 have hw := hw.fold (is := [0]) rfl hrow_1
 exact re_ r [1, 0] h hF hw ⟨rfl, rfl, trivial⟩
abbrev pL (gd : Nat) (ed : Nat) (r : a7) (U : List Rowb) (Γ : Gh) (v : Value) : Prop := ∃ (rowd' : Rowb), v = .tuple #[] ∧ U = [rowd'] ∧ a7.ob ed Γ gd rowd' r ∧ True
theorem j7 {gd ed : Nat} {rowd : Rowb} {d : a7} (hd : a7.ob ed Γ gd rowd d) (hp : Pre [rowd] Γ w0) {r : a7} (h : eU d = some r) : Calls Tryz.prog 22 #[(pq gd)] w0 (Outc Γ [rowd] w0 (pL gd ed r)) := by
 refine goV [] func22 ntmps22 results22 hp fun F hF => ?_
 refine WC.rs (mV (k:=mV (k:=sV nlV (k:=sV (q_fl 2 jF) (k:=?_)))))
 obtain ⟨m1_1, r1_1, m2_1, r2_1, A3_1, c3_1, r3_1, hrow_1, ho0_1, ho1_1, ho2_1, ho3_1, -⟩ := id hd
 refine ufR 0 hrow_1 [_, _, _, _] ?_
 refine sV (ldV 0 isAgg90) (k:=?_)
 refine w9 vD (i := 2) rfl ho2_1 rfl rfl (caV call41) ?_
 intro g2 row3 hm4
 refine cwV 7 [_, _, _, _, _] (sV nlV (k:=sV (q_fl 1 oh) (k:=stV 1 (.map (some g2)) #[ii d.room, .map (some g2), .map (some m2_1), .slice A3_1 d.loose.length c3_1] sizeOf90 (k:=WR.done ?_))))
 refine WC.region ?_
 refine mV (k:=sV nlV (k:=sV (q_fl 3 hZ) (k:=stV 1 (.slice none 0 0) #[ii d.room, .map (some g2), .map (some m2_1), .slice none 0 0] sizeOf91 (k:=?_))))
 refine WR.nil ?_
 intro w hw
 have hw := hw.pad
 obtain ⟨row_5, hrow_5, hob_5⟩ : ∃ rw : Rowb, rw = ([[(gd, .cells #[ii d.room, .map (some g2), .map (some m2_1), .slice none 0 0] ed (0, 0))], row3, r2_1, []] : List Rowb).flatten ∧ a7.ob ed Γ gd rw (⟨d.room, d.seen, d.seen, []⟩ : a7) := ⟨_, rfl, g2, row3, m2_1, r2_1, none, 0, [], rfl, ho0_1, hm4, ho2_1, (Own.nil ey Γ 111), trivial⟩
 have hw := hw.fold (is := [2, 1, 2, 0]) rfl hrow_5
 obtain rfl := Option.some.inj h
 subst hF
 exact aO (is := [0]) (by kernel_rfl) hw rfl ⟨row_5, rfl, rfl, hob_5, trivial⟩
abbrev rK (gd : Nat) (ed : Nat) (r : a7 × (Option af) × (List (List UInt8)) × Int) (U : List Rowb) (Γ : Gh) (v : Value) : Prop := ∃ (rowd' : Rowb), ∃ (g0 : Nat), ∃ (row0 : Rowb), ∃ (A1 : Option Addr), ∃ (c1 : Nat), ∃ (row1 : Rowb), v = .tuple #[optp r.2.1 g0, .slice A1 r.2.2.1.length c1, .int .i64 r.2.2.2] ∧ U = [rowd', row0, row1] ∧ a7.ob ed Γ gd rowd' r.1 ∧ uc (af.ob (156, gd) Γ g0) row0 r.2.1 ∧ Own (slT av) Γ 70 row1 A1 c1 r.2.2.1 ∧ I64 r.2.2.2 ∧ True
theorem rV {gd ed : Nat} {rowd : Rowb} {d : a7} (hd : a7.ob ed Γ gd rowd d) (name : ByteArray) (hname : name.size ≤ lim) (size : Int) (hsize : I64 size) (hp : Pre [rowd] Γ w0) {r : a7 × (Option af) × (List (List UInt8)) × Int} (h : fN d name size = some r) : Calls Tryz.prog 31 #[(pq gd), .string name, ii size] w0 (Outc Γ [rowd] w0 (rK gd ed r)) := by
 refine goV [6, 7, 8] func31 ntmps31 results31 hp fun F hF => ?_
 refine WC.rs (aV (k:=aV (k:=aV (k:=WR.done (WC.seq (WC.rs (mV (k:=?_))))))))
 refine sV (cJ rfl underlying9) (k:=sV aS (k:=mV (k:=vG0 (h:=fun hg1 => moV) (k:=vG0 (h:=fun hg2 => cJ rfl underlying9 (grV hg2)) (k:=vG0 (h:=fun hg3 => bB rfl (grV hg3)) (k:=sV pkO (k:=mV (k:=?_))))))))
 refine vG0 (h:=fun hg4 => moV) (k:=?_)
 obtain ⟨z6, hz7, h⟩ := bnd h
 refine vC0 (h:=fun hg5 => bl (aR call62 rfl rfl (fh (grV hg5) rfl)) (fun w hw => nK (Γ := Gh.all w) name hname (Sat.all w) (eQ hz7 hg5))) (k:=sV pkO (k:=WR.done ?_))
 refine ciV h (fun hb8 h => ?_) (fun hb8 h => ?_)
 ·
  refine WC.rs (aV (k:=aV (k:=aV (k:=WR.done ?_))))
  refine WC.ret ?_
  intro w hw
  have hw := hw.pad
  have hw := hw.pad
  exact re_ r [2, 1, 0] h hF hw ⟨rowd, 0, [], none, 0, [], rfl, rfl, hd, rfl, (Own.nil (slT av) _ 70), iV, trivial⟩
 refine WC.skip (wc_ (WC.rs (mV (k:=mV (k:=sV (aZ (v := .agg #[(pq gd), .string name, ii 0]) rfl (iE rfl rfl) (fun w => by kernel_rfl)) (k:=?_))))))
 refine alV zeroValue148 fun g9 => ?_
 refine stV 0 (.agg #[(pq gd), .string name, ii 0]) #[(pq gd), .string name, ii 0] sizeOf148 (k:=WR.done (WC.rs (sV (ldaV 0 [(pq gd), .string name, ii 0] isAgg148 sizeOf148) (k:=?_))))
 obtain ⟨z10, hz11, h⟩ := bnd h
 refine ecV [1] (caV call63) (fun w hp => t_seglog_place_holds (gp__0 := gd) name hname 0 iV hd hp hz11) ?_
 rintro Γ12 _ _ hl13 ⟨rfl, rfl, hr16, hr17, hr18, _⟩
 refine cwV 33 [_, _] (mV (k:=sV exV (k:=sV exV (k:=sV exV (k:=?_)))))
 refine alV zeroValue2 fun g19 => ?_
 refine stV 0 (ii z10.1) #[ii z10.1] sizeOf2 (k:=aV (k:=aV (k:=WR.done (WC.seq (WC.rs (mV (k:=sV bZ (k:=?_))))))))
 refine WR.done ?_
 refine ciV h (fun hb20 h => ?_) (fun hb20 h => ?_)
 ·
  refine WC.rs (mV (k:=aV (k:=aV (k:=aV (k:=WR.done ?_)))))
  refine WC.ret ?_
  intro w hw
  have hw := hw.pad
  have hw := hw.pad
  exact re_ r [3, 1, 0] h hF hw ⟨rowd, 0, [], none, 0, [], rfl, rfl, (hd.mono hl13), rfl, (Own.nil (slT av) _ 70), hr18, trivial⟩
 refine WC.skip (wc_ (WC.rs (sV (ldV 0 isAgg2) (k:=sV (q_fl 2 ph) (k:=stV 2 (ii z10.1) #[(pq gd), .string name, ii z10.1] sizeOf2 (k:=WR.done (WC.rs ?_)))))))
 refine mV (k:=?_)
 obtain ⟨z21, hz22, h⟩ := bnd h
 refine vqV (caV call64) (fun w hw => kH (Γ := Gh.all w) ((hd.mono hl13).mono hw.sat.le_all) (hw.ra 1 rfl) (Sat.all w) hz22) (k:=aV (k:=WR.done (WC.seq ?_)))
 refine leV fun h023 => ?_
 refine eD (CC F Γ12 [[(g19, .cells #[ii z10.1] 2 (0, 0))], [(g9, .cells #[(pq gd), .string name, ii z10.1] 148 (0, 0))]]) (bo_ [0, 1] gR h023) fun k => ?_
 change WH _ _ _ _ (CC F Γ12 [_, _, _]) _ 5 _ _
 refine hV 0 k (q:=ldaV 1 [(pq gd), .string name, ii z10.1] isAgg148 sizeOf148) (k:=hV 1 k (q:=ldaV 1 [(pq gd), .string name, ii z10.1] isAgg148 sizeOf148) (k:=hV 3 k (q:=moV) (k:=wl_ 2 rfl ?_)))
 obtain ⟨z24, hz25, h⟩ := bnd h
 refine vqV (caV call66) (fun w hw => jU (Γ := Gh.all w) (gp__0 := gd) name hname z10.1 hr16 (Sat.all w) hz25) (k:=?_)
 refine WR.nil (nxV (bo_ [0, 1] gR h023) fun k => ?_)
 refine wl_ 4 rfl ?_
 obtain ⟨hk26, h⟩ := ai h
 obtain ⟨z27, hz28, h⟩ := bnd h
 refine ecV [1] (caV call65) (fun w hp => iS (gp__0 := gd) name hname z10.1 hr16 z24 (of_decide_eq_true hk26) z10.2.1 hr17 (hd.mono hl13) hp hz28) ?_
 rintro Γ29 _ _ hl30 ⟨row33, rfl, rfl, hr34, _⟩
 refine cwV 48 [_, _, _] ?_
 refine WR.nil (nxV (bo_ [1, 1] hl30 h023) fun k => ?_)
 refine WH.done (by kernel_rfl) ?_
 change WC _ _ _ _ _ _
 refine WC.rs (sV (ldaV 2 [(pq gd), .string name, ii z10.1] isAgg148 sizeOf148) (k:=sV (jP (v := .func (.func 68) #[] #[(pq g19)]) rfl (by kernel_rfl)) (k:=?_)))
 obtain ⟨rowT35, hT36⟩ : ∃ r : Rowb, r = ([[(g19, .cells #[ii z10.1] 2 (0, 0))]] : List Rowb).flatten := ⟨_, rfl⟩
 refine WR.sub (fun w hw => hw.fold (is := [1]) rfl hT36) ?_
 obtain ⟨z37, hz38, h⟩ := bnd h
 refine ecV [1, 0] (caV call67) (fun w hp => j4 (caps := #[(pq g19)]) hr34 name hname z10.1 hr16 (fun x y => fH x y z10.1) (fun {Γq_ wq_} x hx y hy hle hp2 {_} hq => Calls.mono (qq (Γ := Γq_) x hx y hy z10.1 hr16 (by subst hT36; exact hp2.parts) hq) (fun e w2 ho => Outc.quiet (by subst hT36; exact hp2.parts) ho (fun _ _ _ hr => ⟨hr.1, hr.2.1⟩))) call68 hp hz38) ?_
 rintro Γ39 _ _ hl40 ⟨row43, rfl, rfl, hd44⟩
 refine cwV 51 [_, _, _] ?_
 refine WR.sub (fun w hw => hw.unfold (i := 1) rfl hT36) ?_
 change WR _ _ _ (CC F Γ39 [_, _, _]) _ _ _
 refine WR.done (WC.rs (sV (ldaV 2 [(pq gd), .string name, ii z10.1] isAgg148 sizeOf148) (k:=mV (k:=sV qQ (k:=sV (aZ (v := .agg #[(pq gd), .string name, ii z10.1, ii (max size 16), ii 0, ii 0, ii 0, ii 0]) rfl (iE rfl rfl) (fun w => by kernel_rfl)) (k:=?_))))))
 refine bxV (v := .agg #[(pq gd), .string name, ii z10.1, ii (max size 16), ii 0, ii 0, ii 0, ii 0]) fun g45 => ?_
 refine alV zeroValue75 fun g46 => ?_
 refine stV 0 ((pq g45)) #[(pq g45)] sizeOf75 (k:=WR.done (WC.rs (sV (ldV 0 isAgg75) (k:=?_))))
 obtain ⟨row_47, hrow_47, hob_47⟩ : ∃ rw : Rowb, rw = ([[(g45, .cells #[(pq gd), .string name, ii z10.1, ii (max size 16), ii 0, ii 0, ii 0, ii 0] 156 (0, 0))]] : List Rowb).flatten ∧ af.ob (156, gd) Γ39 g45 rw (⟨name, z10.1, (max size 16), 0, 0, 0, 0⟩ : af) := ⟨_, rfl, rfl, hname, hr16, (xj hsize iV), iV, iV, iV, iV, trivial⟩
 refine foR [1] hrow_47 [_, _, _, _, _] ?_
 obtain ⟨z48, hz49, h⟩ := bnd h
 refine ecV [0, 2] (caV call69) (fun w hp => o9 hob_47 hd44 hp hz49) ?_
 rintro Γ50 _ _ hl51 ⟨row54, row56, A58, c59, row60, rfl, rfl, hr55, hr57, hr61, _⟩
 refine cwV 58 [_, _, _, _, _, _] (aV (k:=WR.done (WC.rs (sV (ldaV 5 [(pq gd), .string name, ii z10.1] isAgg148 sizeOf148) (k:=sV (jP (v := .func (.func 70) #[] #[(pq g46)]) rfl (by kernel_rfl)) (k:=?_))))))
 obtain ⟨rowT62, hT63⟩ : ∃ r : Rowb, r = ([[(g46, .cells #[(pq g45)] 75 (0, 0))], row54] : List Rowb).flatten := ⟨_, rfl⟩
 refine WR.sub (fun w hw => hw.fold (is := [3, 0]) rfl hT63) ?_
 obtain ⟨z64, hz65, h⟩ := bnd h
 refine ecV [1, 0] (caV call67) (fun w hp => j4 (caps := #[(pq g46)]) hr57 name hname z10.1 hr16 (fun x y => ik x y z48.1) (fun {Γq_ wq_} x hx y hy hle hp2 {_} hq => Calls.mono (qm (Γ := Γq_) x hx y hy (hr55.mono hle) (by subst hT63; exact hp2.parts) hq) (fun e w2 ho => Outc.quiet (by subst hT63; exact hp2.parts) ho (fun _ _ _ hr => ⟨hr.1, hr.2.1⟩))) call70 hp hz65) ?_
 rintro Γ66 _ _ hl67 ⟨row70, rfl, rfl, hd71⟩
 refine cwV 61 [_, _, _, _, _] ?_
 refine WR.sub (fun w hw => hw.unfold (i := 1) rfl hT63) ?_
 change WR _ _ _ (CC F Γ66 [_, _, _, _, _, _]) _ _ _
 refine WR.done ?_
 refine WC.cut (fun σ w => ∃ (o74 : a7), ∃ (Γ72 : Gh), ∃ (row75 : Rowb), eV z48 o74 = some r ∧ slots σ [(14, (pq g46)), (15, .slice A58 z48.2.2.length c59)] ∧ CC F Γ72 [[(g46, .cells #[(pq g45)] 75 (0, 0))], row54, row75, row60] w ∧ Gh.le Γ66 Γ72 ∧ a7.ob ed Γ72 gd row75 o74 ∧ True) ?_ ?_
 ·
  refine WC.rs (mV (k:=?_))
  obtain ⟨z77, hz78, h⟩ := bnd h
  refine vqV (caV call64) (fun w hw => kH (Γ := Gh.all w) (hd71.mono hw.sat.le_all) (hw.ra 2 rfl) (Sat.all w) hz78) (k:=mV (k:=sV bZ (k:=WR.done ?_)))
  refine ciV h (fun hb79 h => ?_) (fun hb79 h => ?_)
  ·
   refine WC.region ?_
   refine mV (k:=?_)
   obtain ⟨z80, hz81, h⟩ := bnd h
   refine ecV [2] (caV call22) (fun w hp => j7 hd71 hp hz81) ?_
   rintro Γ82 _ _ hl83 ⟨row86, rfl, rfl, hr87, _⟩
   refine cwV 67 [_, _, _, _, _, _] ?_
   refine WR.nil ?_
   intro w hw
   exact ⟨z80, Γ82, row86, h, slK, (hw.on [1, 1, 0, 0]), hl83, hr87, trivial⟩
  refine WC.skip ?_
  intro w hw
  exact ⟨z64, Γ66, row70, h, slK, (hw.on [0, 0, 0, 0]), gR, hd71, trivial⟩
 rintro σ w ⟨o74, Γ72, row75, h, hsl, hw, hl73, ho76, -⟩
 refine slV hsl hw [_, _, _, _] ?_; clear hw hsl
 refine WC.rs (sV (ldV 0 isAgg75) (k:=mV (k:=aV (k:=aV (k:=aV (k:=WR.done ?_))))))
 exact WC.ret fun w hw => re_ r [2, 1, 1] h hF hw ⟨row75, g45, row54, A58, c59, row60, rfl, rfl, ho76, (hr55.mono (hl67.trans hl73)), (hr61.mono (hl67.trans hl73)), iV, trivial⟩
abbrev lB (r : List Int) (U : List Rowb) (Γ : Gh) (v : Value) : Prop := ∃ (A0 : Option Addr), ∃ (c0 : Nat), ∃ (row0 : Rowb), v = .slice A0 r.length c0 ∧ U = [row0] ∧ Own intT Γ 3 row0 A0 c0 r ∧ True
theorem dl {As_ : Option Addr} {cs_ : Nat} {s_ : List Int} (hs_ : Sl intT Γ As_ s_) (hs_c : s_.length ≤ cs_) (hp : Pre [] Γ w0) {r : List Int} (h : bR s_ = some r) : Calls Tryz.prog 32 #[.slice As_ s_.length cs_] w0 (Outc Γ [] w0 (lB r)) := by
 refine goV [2] func32 ntmps32 results32 hp fun F hF => ?_
 refine WC.rs (aV (k:=WR.done (WC.seq (WC.rs (mV (k:=sV (md underlying22 rfl rfl rfl) (k:=WR.done ?_)))))))
 refine WC.cnil h (by kernel_rfl) (fun hb => hs_.none_nil hb) (fun hb1 h => ?_) (fun hb1 h => ?_)
 ·
  refine WC.rs (aV (k:=WR.done ?_))
  refine WC.ret ?_
  intro w hw
  have hw := hw.pad
  exact re_ r [0] h hF hw ⟨none, 0, [], rfl, rfl, (Own.nil intT _ 3), trivial⟩
 refine WC.skip (wc_ (WC.rs ?_))
 refine bsV #[] 3 fun g2 => ?_
 refine mV (k:=?_)
 have ho3 : Own intT Γ 3 [(g2, .cells #[] 3 (0, 0))] (some ⟨g2, 0, none⟩) 0 ([] : List Int) := Own.of_blockL (T := intT) (ys := ([] : List Int)) [] rfl (show 0 ≤ lim by decide) (show True from trivial)
 obtain ⟨hk4, h⟩ := ai h
 refine apV 0 s_ tn ho3 (of_decide_eq_true hk4) (fun w hw => mv hs_ hw) ?_
 intro row5 A6 c7 ho8
 refine aV (k:=WR.done ?_)
 exact WC.ret fun w hw => re_ r [0] h hF hw ⟨A6, c7, row5, rfl, rfl, ho8, trivial⟩
abbrev np (gr_ : Nat) (er_ : Nat) (r : al × Int) (U : List Rowb) (Γ : Gh) (v : Value) : Prop := ∃ (rowr_' : Rowb), v = .int .i64 r.2 ∧ U = [rowr_'] ∧ al.ob er_ Γ gr_ rowr_' r.1 ∧ I64 r.2 ∧ True
theorem cR {gr_ er_ : Nat} {rowr_ : Rowb} {r_ : al} (hr_ : al.ob er_ Γ gr_ rowr_ r_) (hp : Pre [rowr_] Γ w0) {r : al × Int} (h : bD r_ = some r) : Calls Tryz.prog 71 #[(pq gr_)] w0 (Outc Γ [rowr_] w0 (np gr_ er_ r)) := by
 refine goV [2] func71 ntmps71 results71 hp fun F hF => ?_
 refine WC.rs (aV (k:=WR.done (WC.seq ?_)))
 obtain ⟨A0_1, c0_1, hrow_1, ho0_1, ho1_1, ho2_1, -⟩ := id hr_
 refine ufC 0 hrow_1 [_] ?_
 refine drV ?_
 refine zV moV (k:=zV nlV (k:=zV (q_fl 0 k7) (k:=zV (ldV 0 isAgg70) (k:=zV moV (k:=zV nlV (k:=zV (q_fl 1 fM) (k:=zV (ldV 0 isAgg3) (k:=?_))))))))
 obtain ⟨z2, hz3, h⟩ := bnd h
 refine wc rfl rfl rfl (bl (caV call133) (fun w hw => l9 (Γ := Gh.all w) (ho1_1.mono hw.sat.le_all) ho0_1 r_.at_ ho2_1 (Sat.all w) hz3)) (zV moV (k:=zV exV (k:=zV exV (k:=zV exV (k:=zV aoV (k:=zV aoV (k:=zV aoV (k:=?_))))))))
 refine WQ.nil ?_
 change WC _ _ _ _ _ _
 refine WC.seq (WC.rs (mV (k:=sV bZ (k:=mV (k:=vG0 (h:=fun hg4 => moV) (k:=vG0 (h:=fun hg5 => nlV (hv:=grV hg5)) (k:=vG0 (h:=fun hg6 => q_fl 2 eX rfl (grV hg6)) (k:=?_))))))))
 refine vG0 (h:=fun hg7 => ldV 0 isAgg4 (hx:=grV hg7)) (k:=sV pkO (k:=WR.done ?_))
 refine ciV h (fun hb8 h => ?_) (fun hb8 h => ?_)
 ·
  refine WC.rs (mV (k:=sV nlV (k:=sV (q_fl 2 eX) (k:=stV 0 (.bool true) #[.slice A0_1 r_.b.length c0_1, ii r_.at_, .bool true] sizeOf4 (k:=WR.done (WC.rs (aV (k:=?_))))))))
  refine WR.done ?_
  refine WC.ret ?_
  intro w hw
  obtain ⟨row_9, hrow_9, hob_9⟩ : ∃ rw : Rowb, rw = ([[(gr_, .cells #[.slice A0_1 r_.b.length c0_1, ii r_.at_, .bool true] er_ (0, 0))]] : List Rowb).flatten ∧ al.ob er_ Γ gr_ rw (⟨r_.b, r_.at_, true⟩ : al) := ⟨_, rfl, A0_1, c0_1, rfl, ho0_1, ho1_1, ho2_1, trivial⟩
  have hw := hw.fold (is := [0]) rfl hrow_9
  obtain rfl := Option.some.inj h
  subst hF
  exact aO (is := [0]) (by kernel_rfl) hw rfl ⟨row_9, rfl, rfl, hob_9, iV, trivial⟩
 refine WC.skip (wc_ (WC.rs (mV (k:=mV (k:=sV nlV (k:=sV (q_fl 1 fM) (k:=stV 0 (ii z2.2.1) #[.slice A0_1 r_.b.length c0_1, ii z2.2.1, .bool r_.bad] sizeOf3 (k:=?_))))))))
 refine WR.done (WC.rs (mV (k:=aV (k:=WR.done ?_))))
 refine WC.ret ?_
 intro w hw
 obtain ⟨hk11, h⟩ := ai h
 obtain ⟨row_10, hrow_10, hob_10⟩ : ∃ rw : Rowb, rw = ([[(gr_, .cells #[.slice A0_1 r_.b.length c0_1, ii z2.2.1, .bool r_.bad] er_ (0, 0))]] : List Rowb).flatten ∧ al.ob er_ Γ gr_ rw (⟨r_.b, z2.2.1, r_.bad⟩ : al) := ⟨_, rfl, A0_1, c0_1, rfl, ho0_1, ho1_1, (dQ hk11), trivial⟩
 have hw := hw.fold (is := [0]) rfl hrow_10
 obtain ⟨hk12, h⟩ := ai h
 obtain rfl := Option.some.inj h
 subst hF
 exact aO (is := [0]) (by kernel_rfl) hw rfl ⟨row_10, rfl, rfl, hob_10, (dQ hk12), trivial⟩
theorem vk {Ab : Option Addr} {cb : Nat} {b : List UInt8} (hb : Sl av Γ Ab b) (hbc : b.length ≤ cb) (at_ : Int) (hat_ : I64 at_) (most : Int) (hmost : I64 most) (hs : Sat Γ w0) {r : ByteArray × Int × Int} (h : nM b at_ most = some r) : CQ Tryz.prog 245 #[.slice Ab b.length cb, ii at_, ii most] w0 (.tuple #[.string r.1, ii r.2.1, ii r.2.2]) := by
 refine goQ [6, 7, 8] func245 ntmps245 results245 hs fun F hF => ?_
 refine WC.rs (aV (k:=aV (k:=aV (k:=WR.done (WC.rs (mV (k:=mV (k:=?_))))))))
 obtain ⟨z1, hz2, h⟩ := bnd h
 refine vqV (caV call133) (fun w hw => l9 (Γ := Gh.all w) (hb.mono hw.sat.le_all) hbc at_ hat_ (Sat.all w) hz2) (k:=mV (k:=sV exV (k:=sV exV (k:=sV exV (k:=aV (k:=aV (k:=aV (k:=?_))))))))
 refine WR.done (WC.seq (WC.block (WC.rs (mV (k:=sV bZ (k:=aV (k:=WR.done ?_)))))))
 refine ciV h (fun hb3 h => ?_) (fun hb3 h => ?_)
 ·
  refine WC.rs (mV (k:=aV (k:=aV (k:=aV (k:=WR.done ?_)))))
  exact WC.ret fun w hw => by obtain rfl := Option.some.inj h; exact ⟨by kernel_rfl, fr_ hF hw⟩
 refine WC.rs (mV (k:=mV (k:=sV qQ (k:=sV bB (k:=aV (k:=WR.done ?_))))))
 refine ciV h (fun hb4 h => ?_) (fun hb4 h => ?_)
 ·
  refine WC.rs (aV (k:=aV (k:=aV (k:=WR.done ?_))))
  exact WC.ret fun w hw => by obtain rfl := Option.some.inj h; exact ⟨by kernel_rfl, fr_ hF hw⟩
 refine WC.rs (mV (k:=mV (k:=sV (ab rfl underlying70) (k:=mV (k:=sV hQ (k:=sV bB (k:=aV (k:=?_))))))))
 refine WR.done ?_
 refine ciV h (fun hb5 h => ?_) (fun hb5 h => ?_)
 ·
  refine WC.rs (aV (k:=aV (k:=aV (k:=WR.done ?_))))
  exact WC.ret fun w hw => by obtain rfl := Option.some.inj h; exact ⟨by kernel_rfl, fr_ hF hw⟩
 refine WC.skip (wc_ (WC.rs (mV (k:=mV (k:=mV (k:=mV (k:=sV eE (k:=?_))))))))
 obtain ⟨hk6, h⟩ := ai h
 obtain ⟨hk7, h⟩ := ai h
 obtain ⟨hk8, h⟩ := ai h
 refine sV (yQ (c := cb) (lo := z1.2.1.toNat) (hi := (w64 (z1.2.1 + z1.1)).toNat) (xs := b) underlying70 sizeOf5 rfl rfl (yR rfl hk7) (iG rfl hk6) (of_decide_eq_true hk8) (cm hk6) hbc) (k:=sV (Bh (hb.cut (cap := cb) (lo := z1.2.1.toNat) (hi := (w64 (z1.2.1 + z1.1)).toNat) (of_decide_eq_true hk8) (cm hk6) hbc) underlying70 underlying5 underlying9 rfl rfl) (k:=mV (k:=mV (k:=sV eE (k:=aV (k:=aV (k:=aV (k:=?_))))))))
 refine WR.done ?_
 exact WC.ret fun w hw => by obtain rfl := Option.some.inj h; exact ⟨by kernel_rfl, fr_ hF hw⟩
abbrev nt (gr_ : Nat) (er_ : Nat) (r : a8 × ByteArray) (U : List Rowb) (Γ : Gh) (v : Value) : Prop := ∃ (rowr_' : Rowb), v = .string r.2 ∧ U = [rowr_'] ∧ a8.ob er_ Γ gr_ rowr_' r.1 ∧ r.2.size ≤ lim ∧ True
theorem ft {gr_ er_ : Nat} {rowr_ : Rowb} {r_ : a8} (hr_ : a8.ob er_ Γ gr_ rowr_ r_) (hp : Pre [rowr_] Γ w0) {r : Option (a8 × ByteArray)} (h : dH r_ = some r) : Calls Tryz.prog 204 #[(pq gr_)] w0 (qj [{ v := (.iface 304 (.agg #[])), recovered := false }] Γ [rowr_] w0 (fun r => nt gr_ er_ r) r) := by
 refine goV [2] func204 ntmps204 results204 hp fun F hF => ?_
 refine WC.rs (aV (k:=WR.done (WC.seq ?_)))
 obtain ⟨A0_1, c0_1, hrow_1, ho0_1, ho1_1, ho2_1, -⟩ := id hr_
 refine ufC 0 hrow_1 [_] ?_
 refine drV ?_
 refine zV moV (k:=zV nlV (k:=zV (q_fl 0 ld) (k:=zV (ldV 0 isAgg70) (k:=zV moV (k:=zV nlV (k:=zV (q_fl 1 jh) (k:=zV (ldV 0 isAgg3) (k:=?_))))))))
 refine zV moV (k:=zV nlV (k:=zV (q_fl 0 ld) (k:=zV (ldV 0 isAgg70) (k:=zV (ab rfl underlying70) (k:=?_)))))
 obtain ⟨z2, hz3, h⟩ := bnd h
 refine wc rfl rfl rfl (bl (caV call245) (fun w hw => vk (Γ := Gh.all w) (ho1_1.mono hw.sat.le_all) ho0_1 r_.at_ ho2_1 (r_.b.length : Int) (lX ho1_1.le) (Sat.all w) hz3)) (zV moV (k:=zV exV (k:=zV exV (k:=zV exV (k:=zV aoV (k:=zV aoV (k:=zV aoV (k:=?_))))))))
 refine WQ.nil ?_
 change WC _ _ _ _ _ _
 refine foC [0] hrow_1 [_] ?_
 refine WC.cut (fun σ w => fR r_ z2  = some r ∧ slots σ [(0, (pq gr_)), (3, .string z2.1), (4, ii z2.2.1)] ∧ CC F Γ [rowr_] w ∧ True) ?_ ?_
 ·
  refine WC.rs (mV (k:=sV bZ (k:=WR.done ?_)))
  refine ciV h (fun hb5 h => ?_) (fun hb5 h => ?_)
  ·
   refine WC.region ?_
   refine sV (dP (v := .agg #[]) rfl (fun w => by kernel_rfl)) (k:=sV (eN rfl rfl (fun w => mkif underlying304 w)) (k:=?_))
   refine lH (v := .iface 304 (.agg #[])) rfl (gB rfl rfl) ?_
   intro w hw
   obtain rfl := Option.some.inj h
   subst hF
   first | exact bY hw | exact fun _ => bY hw
  refine WC.skip ?_
  intro w hw
  exact ⟨h, slK, hw, trivial⟩
 rintro σ w ⟨h, hsl, hw, -⟩
 refine slV hsl hw [_] ?_; clear hw hsl
 refine WC.rs (mV (k:=mV (k:=sV nlV (k:=sV (q_fl 1 jh) (k:=?_)))))
 obtain ⟨A0_8, c0_8, hrow_8, ho0_8, ho1_8, ho2_8, -⟩ := id hr_
 refine ufR 0 hrow_8 [_] ?_
 refine stV 0 (ii z2.2.1) #[.slice A0_8 r_.b.length c0_8, ii z2.2.1] sizeOf3 (k:=WR.done (WC.rs (mV (k:=aV (k:=WR.done ?_)))))
 refine WC.ret ?_
 intro w hw
 obtain ⟨hk10, h⟩ := ai h
 obtain ⟨row_9, hrow_9, hob_9⟩ : ∃ rw : Rowb, rw = ([[(gr_, .cells #[.slice A0_8 r_.b.length c0_8, ii z2.2.1] er_ (0, 0))]] : List Rowb).flatten ∧ a8.ob er_ Γ gr_ rw (⟨r_.b, z2.2.1⟩ : a8) := ⟨_, rfl, A0_8, c0_8, rfl, ho0_8, ho1_8, (dQ hk10), trivial⟩
 have hw := hw.fold (is := [0]) rfl hrow_9
 obtain ⟨hk11, h⟩ := ai h
 obtain rfl := Option.some.inj h
 subst hF
 exact aO (is := [0]) (by kernel_rfl) hw rfl ⟨row_9, rfl, rfl, hob_9, (of_decide_eq_true hk11), trivial⟩
abbrev p9 (gr_ : Nat) (er_ : Nat) (r : a8 × Int) (U : List Rowb) (Γ : Gh) (v : Value) : Prop := ∃ (rowr_' : Rowb), v = .int .i64 r.2 ∧ U = [rowr_'] ∧ a8.ob er_ Γ gr_ rowr_' r.1 ∧ I64 r.2 ∧ True
theorem aN {gr_ er_ : Nat} {rowr_ : Rowb} {r_ : a8} (hr_ : a8.ob er_ Γ gr_ rowr_ r_) (hp : Pre [rowr_] Γ w0) {r : Option (a8 × Int)} (h : br r_ = some r) : Calls Tryz.prog 246 #[(pq gr_)] w0 (qj [{ v := (.iface 304 (.agg #[])), recovered := false }] Γ [rowr_] w0 (fun r => p9 gr_ er_ r) r) := by
 refine goV [2] func246 ntmps246 results246 hp fun F hF => ?_
 refine WC.rs (aV (k:=WR.done (WC.seq ?_)))
 obtain ⟨A0_1, c0_1, hrow_1, ho0_1, ho1_1, ho2_1, -⟩ := id hr_
 refine ufC 0 hrow_1 [_] ?_
 refine drV ?_
 refine zV moV (k:=zV nlV (k:=zV (q_fl 0 ld) (k:=zV (ldV 0 isAgg70) (k:=zV moV (k:=zV nlV (k:=zV (q_fl 1 jh) (k:=zV (ldV 0 isAgg3) (k:=?_))))))))
 obtain ⟨z2, hz3, h⟩ := bnd h
 refine wc rfl rfl rfl (bl (caV call133) (fun w hw => l9 (Γ := Gh.all w) (ho1_1.mono hw.sat.le_all) ho0_1 r_.at_ ho2_1 (Sat.all w) hz3)) (zV moV (k:=zV exV (k:=zV exV (k:=zV exV (k:=zV aoV (k:=zV aoV (k:=zV aoV (k:=?_))))))))
 refine WQ.nil ?_
 change WC _ _ _ _ _ _
 refine foC [0] hrow_1 [_] ?_
 refine WC.cut (fun σ w => gJ r_ z2  = some r ∧ slots σ [(0, (pq gr_)), (3, ii z2.1), (4, ii z2.2.1)] ∧ CC F Γ [rowr_] w ∧ True) ?_ ?_
 ·
  refine WC.rs (mV (k:=sV bZ (k:=WR.done ?_)))
  refine ciV h (fun hb5 h => ?_) (fun hb5 h => ?_)
  ·
   refine WC.region ?_
   refine sV (dP (v := .agg #[]) rfl (fun w => by kernel_rfl)) (k:=sV (eN rfl rfl (fun w => mkif underlying304 w)) (k:=?_))
   refine lH (v := .iface 304 (.agg #[])) rfl (gB rfl rfl) ?_
   intro w hw
   obtain rfl := Option.some.inj h
   subst hF
   first | exact bY hw | exact fun _ => bY hw
  refine WC.skip ?_
  intro w hw
  exact ⟨h, slK, hw, trivial⟩
 rintro σ w ⟨h, hsl, hw, -⟩
 refine slV hsl hw [_] ?_; clear hw hsl
 refine WC.rs (mV (k:=mV (k:=sV nlV (k:=sV (q_fl 1 jh) (k:=?_)))))
 obtain ⟨A0_8, c0_8, hrow_8, ho0_8, ho1_8, ho2_8, -⟩ := id hr_
 refine ufR 0 hrow_8 [_] ?_
 refine stV 0 (ii z2.2.1) #[.slice A0_8 r_.b.length c0_8, ii z2.2.1] sizeOf3 (k:=WR.done (WC.rs (mV (k:=aV (k:=WR.done ?_)))))
 refine WC.ret ?_
 intro w hw
 obtain ⟨hk10, h⟩ := ai h
 obtain ⟨row_9, hrow_9, hob_9⟩ : ∃ rw : Rowb, rw = ([[(gr_, .cells #[.slice A0_8 r_.b.length c0_8, ii z2.2.1] er_ (0, 0))]] : List Rowb).flatten ∧ a8.ob er_ Γ gr_ rw (⟨r_.b, z2.2.1⟩ : a8) := ⟨_, rfl, A0_8, c0_8, rfl, ho0_8, ho1_8, (dQ hk10), trivial⟩
 have hw := hw.fold (is := [0]) rfl hrow_9
 obtain ⟨hk11, h⟩ := ai h
 obtain rfl := Option.some.inj h
 subst hF
 exact aO (is := [0]) (by kernel_rfl) hw rfl ⟨row_9, rfl, rfl, hob_9, (dQ hk11), trivial⟩
abbrev oM (gr_ : Nat) (er_ : Nat) (r : a8 × Int) (U : List Rowb) (Γ : Gh) (v : Value) : Prop := ∃ (rowr_' : Rowb), v = .int .i64 r.2 ∧ U = [rowr_'] ∧ a8.ob er_ Γ gr_ rowr_' r.1 ∧ I64 r.2 ∧ True
theorem gg {gr_ er_ : Nat} {rowr_ : Rowb} {r_ : a8} (hr_ : a8.ob er_ Γ gr_ rowr_ r_) (hp : Pre [rowr_] Γ w0) {r : Option (a8 × Int)} (h : ek r_ = some r) : Calls Tryz.prog 247 #[(pq gr_)] w0 (qj [{ v := (.iface 304 (.agg #[])), recovered := false }] Γ [rowr_] w0 (fun r => oM gr_ er_ r) r) := by
 refine goV [2] func247 ntmps247 results247 hp fun F hF => ?_
 refine WC.rs (aV (k:=WR.done (WC.rs (mV (k:=?_)))))
 obtain ⟨z1, hz2, h⟩ := bnd h
 rcases z1 with _ | o3
 ·
  have h := gE rfl h
  refine eo (is := [0]) rfl (caV call246) rfl (fun w hp => aN hr_ hp hz2) ?_
  intro Γ4 hl5
  intro w hw
  obtain rfl := Option.some.inj h
  subst hF
  first | exact bY hw | exact fun _ => bY hw
 have h := gH rfl h
 refine ecV [0] (caV call246) (fun w hp => aN hr_ hp hz2) ?_
 rintro Γ6 _ _ hl7 ⟨row10, rfl, rfl, hr11, hr12, _⟩
 refine cwV 4 [_] (aV (k:=WR.done ?_))
 refine WC.ret ?_
 intro w hw
 obtain rfl := Option.some.inj h
 subst hF
 exact aO (is := [0]) (by kernel_rfl) hw rfl ⟨row10, rfl, rfl, hr11, hr12, trivial⟩
abbrev ny (gr_ : Nat) (er_ : Nat) (r : a8 × Span) (U : List Rowb) (Γ : Gh) (v : Value) : Prop := ∃ (rowr_' : Rowb), v = .agg #[.int .i64 r.2.s, .int .i64 r.2.f, .int .i64 r.2.t] ∧ U = [rowr_'] ∧ a8.ob er_ Γ gr_ rowr_' r.1 ∧ Span.fits Γ  r.2 ∧ True
theorem kp {gr_ er_ : Nat} {rowr_ : Rowb} {r_ : a8} (hr_ : a8.ob er_ Γ gr_ rowr_ r_) (hp : Pre [rowr_] Γ w0) {r : Option (a8 × Span)} (h : fj r_ = some r) : Calls Tryz.prog 249 #[(pq gr_)] w0 (qj [{ v := (.iface 304 (.agg #[])), recovered := false }] Γ [rowr_] w0 (fun r => ny gr_ er_ r) r) := by
 refine dJ (N := 24) (rs := [.cell 2 277]) (args := [(pq gr_)]) func249 rfl ntmps249 results249 rfl ?_
 obtain ⟨F, hF⟩ : ∃ F : Fm, F = ⟨ids [rowr_], w0, Γ⟩ := ⟨_, rfl⟩
 refine WC.here (C := CC F Γ [rowr_]) ?_ (hF ▸ hp.start)
 refine WC.rs ?_
 refine alV zeroValue277 fun g1 => ?_
 refine WR.done (WC.rs (mV (k:=?_)))
 obtain ⟨z2, hz3, h⟩ := bnd h
 rcases z2 with _ | o4
 ·
  have h := gE rfl h
  refine eo (is := [1]) rfl (caV call247) rfl (fun w hp => gg hr_ hp hz3) ?_
  intro Γ5 hl6
  intro w hw
  obtain rfl := Option.some.inj h
  subst hF
  first | exact bY hw | exact fun _ => bY hw
 have h := gH rfl h
 refine ecV [1] (caV call247) (fun w hp => gg hr_ hp hz3) ?_
 rintro Γ7 _ _ hl8 ⟨row11, rfl, rfl, hr12, hr13, _⟩
 refine cwV 5 [_, _] (sV (aZ (v := .agg #[ii o4.2, ii 0, ii 0]) rfl (jN rfl) (fun w => by kernel_rfl)) (k:=?_))
 refine alV zeroValue277 fun g14 => ?_
 refine stV 0 (.agg #[ii o4.2, ii 0, ii 0]) #[ii o4.2, ii 0, ii 0] sizeOf277 (k:=WR.done (WC.rs (mV (k:=?_))))
 obtain ⟨z15, hz16, h⟩ := bnd h
 rcases z15 with _ | o17
 ·
  have h := gE rfl h
  refine eo (is := [1]) rfl (caV call246) rfl (fun w hp => aN hr12 hp hz16) ?_
  intro Γ18 hl19
  intro w hw
  obtain rfl := Option.some.inj h
  subst hF
  first | exact bY hw | exact fun _ => bY hw
 have h := gH rfl h
 refine ecV [1] (caV call246) (fun w hp => aN hr12 hp hz16) ?_
 rintro Γ20 _ _ hl21 ⟨row24, rfl, rfl, hr25, hr26, _⟩
 refine cwV 8 [_, _, _] (sV (q_fl 1 gP) (k:=stV 1 (ii o17.2) #[ii o4.2, ii o17.2, ii 0] sizeOf2 (k:=WR.done ?_)))
 refine WC.cut (fun σ w => ∃ (x29 : Span), ∃ (o31 : a8), ∃ (Γ27 : Gh), ∃ (row32 : Rowb), fQ x29 o31 = some r ∧ slots σ [(2, (pq g1)), (3, (pq g14))] ∧ CC F Γ27 [row32, [(g14, .cells (Span.cs x29).toArray 277 (0, 0))], [(g1, .cells #[ii 0, ii 0, ii 0] 277 (0, 0))]] w ∧ Gh.le Γ20 Γ27 ∧ Span.fits Γ27  x29 ∧ a8.ob er_ Γ27 gr_ row32 o31 ∧ True) ?_ ?_
 ·
  refine leV fun h034 => ?_
  refine eD (CC F Γ20 [[(g1, .cells #[ii 0, ii 0, ii 0] 277 (0, 0))]]) (bo_ [2] gR h034) fun k => ?_
  change WH _ _ _ _ (CC F Γ20 [_, _, _]) _ 7 _ _
  refine hV 0 k (q:=q_fl 1 gP) (k:=hV 2 k (q:=moV) (k:=?_))
  obtain ⟨z35, hz36, h⟩ := bnd h
  refine WH.each (l := [1, 3]) (by kernel_rfl) (by simp) ?_
  intro i hi; simp only [List.mem_cons, List.not_mem_nil, or_false] at hi
  rcases hi with rfl | rfl
  ·
   refine ⟨_, rfl, ?_⟩
   refine sV (ldV 1 isAgg2) (k:=?_)
   refine WR.nil (nxV (bo_ [2] gR h034) fun k => ?_)
   refine wl_ 3 rfl ?_
   rcases z35 with _ | o37
   ·
    have h := gE rfl h
    refine eo (is := [0]) rfl (caV call246) rfl (fun w hp => aN hr25 hp hz36) ?_
    intro Γ38 hl39
    intro w hw
    obtain rfl := Option.some.inj h
    subst hF
    first | exact bY hw | exact fun _ => bY hw
   have h := gH rfl h
   refine ecV [0] (caV call246) (fun w hp => aN hr25 hp hz36) ?_
   rintro Γ40 _ _ hl41 ⟨row44, rfl, rfl, hr45, hr46, _⟩
   refine cwV 13 [_, _, _] ?_
   refine WR.nil (nxV (bo_ [2] hl41 h034) fun k => ?_)
   refine hV 4 k (q:=eE) (k:=hV 5 k (q:=q_fl 2 fK) (k:=wl_ 6 rfl (stV 1 (ii (w64 (o17.2 + o37.2))) #[ii o4.2, ii o17.2, ii (w64 (o17.2 + o37.2))] sizeOf2 (k:=?_))))
   refine WR.nil (nxV (bo_ [2] hl41 h034) fun k => ?_)
   refine WH.done (by kernel_rfl) ?_
   intro w hw
   exact ⟨(⟨o4.2, o17.2, (w64 (o17.2 + o37.2))⟩ : Span), o37.1, Γ40, row44, h, slK, hw, hl41, ⟨hr13, hr26, (iA _)⟩, hr45, trivial⟩
  refine ⟨_, rfl, ?_⟩
  rcases z35 with _ | o37
  ·
   have h := gE rfl h
   refine eo (is := [0]) rfl (caV call246) rfl (fun w hp => aN hr25 hp hz36) ?_
   intro Γ38 hl39
   intro w hw
   obtain rfl := Option.some.inj h
   subst hF
   first | exact bY hw | exact fun _ => bY hw
  have h := gH rfl h
  refine ecV [0] (caV call246) (fun w hp => aN hr25 hp hz36) ?_
  rintro Γ40 _ _ hl41 ⟨row44, rfl, rfl, hr45, hr46, _⟩
  refine cwV 13 [_, _, _] ?_
  refine WR.nil (nxV (bo_ [2] hl41 h034) fun k => ?_)
  refine wl_ 1 rfl (sV (ldV 1 isAgg2) (k:=?_))
  refine WR.nil (nxV (bo_ [2] hl41 h034) fun k => ?_)
  refine hV 4 k (q:=eE) (k:=hV 5 k (q:=q_fl 2 fK) (k:=wl_ 6 rfl (stV 1 (ii (w64 (o17.2 + o37.2))) #[ii o4.2, ii o17.2, ii (w64 (o17.2 + o37.2))] sizeOf2 (k:=?_))))
  refine WR.nil (nxV (bo_ [2] hl41 h034) fun k => ?_)
  refine WH.done (by kernel_rfl) ?_
  intro w hw
  exact ⟨(⟨o4.2, o17.2, (w64 (o17.2 + o37.2))⟩ : Span), o37.1, Γ40, row44, h, slK, hw, hl41, ⟨hr13, hr26, (iA _)⟩, hr45, trivial⟩
 rintro σ w ⟨x29, o31, Γ27, row32, h, hsl, hw, hl28, hf30, ho33, -⟩
 refine slV hsl hw [_, _, _] ?_; clear hw hsl
 refine WC.cut (fun σ w => fS x29 o31  = some r ∧ slots σ [(2, (pq g1)), (3, (pq g14))] ∧ CC F Γ27 [row32, [(g14, .cells (Span.cs x29).toArray 277 (0, 0))], [(g1, .cells #[ii 0, ii 0, ii 0] 277 (0, 0))]] w ∧ True) ?_ ?_
 ·
  refine WC.rs (sV (q_fl 2 fK) (k:=sV (ldV 1 isAgg2) (k:=sV (q_fl 1 gP) (k:=sV (ldV 1 isAgg2) (k:=sV aS (k:=WR.done ?_))))))
  refine ciV h (fun hb47 h => ?_) (fun hb47 h => ?_)
  ·
   refine WC.region ?_
   refine sV (dP (v := .agg #[]) rfl (fun w => by kernel_rfl)) (k:=sV (eN rfl rfl (fun w => mkif underlying304 w)) (k:=?_))
   refine lH (v := .iface 304 (.agg #[])) rfl (gB rfl rfl) ?_
   intro w hw
   obtain rfl := Option.some.inj h
   subst hF
   first | exact bY hw | exact fun _ => bY hw
  refine WC.skip ?_
  intro w hw
  exact ⟨h, slK, hw, trivial⟩
 rintro σ w ⟨h, hsl, hw, -⟩
 refine slV hsl hw [_, _, _] ?_; clear hw hsl
 refine WC.rs (sV (ldaV 1 (Span.cs x29) isAgg277 sizeOf277) (k:=stV 2 (.agg (Span.cs x29).toArray) (Span.cs x29).toArray sizeOf277 (k:=WR.done ?_)))
 refine WC.ret ?_
 intro w hw
 obtain rfl := Option.some.inj h
 subst hF
 exact ⟨[.agg (Span.cs x29).toArray], (dp (i := 2) (us := (Span.cs x29)) hw rfl isAgg277 sizeOf277 (by kernel_rfl) rfl dk), aO (is := [0]) (by kernel_rfl) hw rfl ⟨row32, rfl, rfl, ho33, hf30, trivial⟩⟩
abbrev mH (gr_ : Nat) (er_ : Nat) (r : a8 × (List Span)) (U : List Rowb) (Γ : Gh) (v : Value) : Prop := ∃ (rowr_' : Rowb), ∃ (A0 : Option Addr), ∃ (c0 : Nat), ∃ (row0 : Rowb), v = .slice A0 r.2.length c0 ∧ U = [rowr_', row0] ∧ a8.ob er_ Γ gr_ rowr_' r.1 ∧ Own iU Γ 277 row0 A0 c0 r.2 ∧ True
theorem jC {gr_ er_ : Nat} {rowr_ : Rowb} {r_ : a8} (hr_ : a8.ob er_ Γ gr_ rowr_ r_) (hp : Pre [rowr_] Γ w0) {r : Option (a8 × (List Span))} (h : e7 r_ = some r) : Calls Tryz.prog 248 #[(pq gr_), .func (.func 249) #[(pq gr_)] #[]] w0 (qj [{ v := (.iface 304 (.agg #[])), recovered := false }] Γ [rowr_] w0 (fun r => mH gr_ er_ r) r) := by
 refine goV [4] func248 ntmps248 results248 hp fun F hF => ?_
 refine WC.rs (aV (k:=WR.done (WC.rs (mV (k:=?_)))))
 obtain ⟨z1, hz2, h⟩ := bnd h
 rcases z1 with _ | o3
 ·
  have h := gE rfl h
  refine eo (is := [0]) rfl (caV call246) rfl (fun w hp => aN hr_ hp hz2) ?_
  intro Γ4 hl5
  intro w hw
  obtain rfl := Option.some.inj h
  subst hF
  first | exact bY hw | exact fun _ => bY hw
 have h := gH rfl h
 refine ecV [0] (caV call246) (fun w hp => aN hr_ hp hz2) ?_
 rintro Γ6 _ _ hl7 ⟨row10, rfl, rfl, hr11, hr12, _⟩
 refine cwV 8 [_] (aV (k:=WR.done ?_))
 refine WC.cut (fun σ w => eP o3  = some r ∧ slots σ [(1, .func (.func 249) #[(pq gr_)] #[]), (5, ii o3.2)] ∧ CC F Γ6 [row10] w ∧ True) ?_ ?_
 ·
  refine WC.seq ?_
  obtain ⟨A0_13, c0_13, hrow_13, ho0_13, ho1_13, ho2_13, -⟩ := id hr11
  refine ufC 0 hrow_13 [_] ?_
  refine drV ?_
  refine zV moV (k:=zV moV (k:=zV nlV (k:=zV (q_fl 0 ld) (k:=zV (ldV 0 isAgg70) (k:=zV (ab rfl underlying70) (k:=zV moV (k:=zV nlV (k:=?_))))))))
  refine zV (q_fl 1 jh) (k:=zV (ldV 0 isAgg3) (k:=zV hQ (k:=zV bB (k:=?_))))
  refine WQ.nil ?_
  change WC _ _ _ _ _ _
  refine ciV h (fun hb14 h => ?_) (fun hb14 h => ?_)
  ·
   refine WC.region ?_
   refine sV (dP (v := .agg #[]) rfl (fun w => by kernel_rfl)) (k:=sV (eN rfl rfl (fun w => mkif underlying304 w)) (k:=?_))
   refine lH (v := .iface 304 (.agg #[])) rfl (gB rfl rfl) ?_
   intro w hw
   obtain rfl := Option.some.inj h
   subst hF
   first | exact bY hw | exact fun _ => bY hw
  refine WC.skip ?_
  intro w hw
  have hw := hw.fold (is := [0]) rfl hrow_13
  exact ⟨h, slK, hw, trivial⟩
 rintro σ w ⟨h, hsl, hw, -⟩
 refine slV hsl hw [_] ?_; clear hw hsl
 refine WC.rs (aV (k:=WR.done (WC.seq (WC.rs (mV (k:=mV (k:=WR.done ?_)))))))
 refine WC.block ?_
 refine WC.forU h (fun (i29 : Nat) (s : (List Span) × a8) σ w => match s with | (out_20, o25) => ∃ (Γ18 : Gh), ∃ (A21 : Option Addr), ∃ (c22 : Nat), ∃ (row23 : Rowb), ∃ (row26 : Rowb), slots σ [(1, .func (.func 249) #[(pq gr_)] #[]), (6, .slice A21 out_20.length c22), (23, ii o3.2), (24, ii (i29 : Int))] ∧ CC F Γ18 [row23, row26] w ∧ Gh.le Γ6 Γ18 ∧ Own iU Γ18 277 row23 A21 c22 out_20 ∧ a8.ob er_ Γ18 gr_ row26 o25 ∧ True) ?_ ?_
 ·
  intro w hw
  have hw := hw.pad
  exact ⟨Γ6, none, 0, [], row10, slK, hw, gR, (Own.nil iU _ 277), hr11, trivial⟩
 rintro f28 i29 ⟨out_20, o25⟩ σ w hi30 hlt31 hge32 ⟨Γ18, A21, c22, row23, row26, hsl, hw, hl19, ho24, ho27, -⟩
 refine slV hsl hw [_, _] ?_; clear hw hsl
 refine WC.rs (sV aS (k:=WR.done (WC.seq ?_)))
 refine coV (fun hb33 => ?_) (fun hb33 => ?_)
 ·
  have hl34 := ilti hb33
  have h := hlt31 hl34
  refine WC.skip (wc_ (WC.seq (WC.block ?_)))
  refine WC.region ?_
  refine mV (k:=mU (v := .func (.func 249) #[(pq gr_)] #[]) (k:=?_))
  obtain ⟨z35, hz36, h⟩ := bnd h
  rcases z35 with _ | o37
  ·
   have h := gE rfl h
   refine eo (is := [1]) rfl (iy (first := #[(pq gr_)]) call249 rfl (by kernel_rfl) (by kernel_rfl)) rfl (fun w hp => kp ho27 hp hz36) ?_
   intro Γ38 hl39
   intro w hw
   obtain rfl := Option.some.inj h
   subst hF
   first | exact bY hw | exact fun _ => bY hw
  have h := gH rfl h
  refine ecV [1] (iy (first := #[(pq gr_)]) call249 rfl (by kernel_rfl) (by kernel_rfl)) (fun w hp => kp ho27 hp hz36) ?_
  rintro Γ40 _ _ hl41 ⟨row44, rfl, rfl, hr45, hr46, _⟩
  refine cwV 28 [_, _] ?_
  refine bsV (Span.cs o37.2).toArray 277 fun g47 => ?_
  obtain ⟨hk48, h⟩ := ai h
  refine apV 2 [o37.2] Ae (ho24.mono hl41) (of_decide_eq_true hk48) (fun w hw => dR (i := 0) rfl (by exact ⟨rfl, hr46⟩) hw) ?_
  intro row49 A50 c51 ho52
  refine aV (k:=?_)
  refine WR.nil ?_
  change WC _ _ _ _ _ _
  refine WC.region ?_
  refine sV (aC rfl rfl rfl (k5 hl34 hr12)) (k:=mV (k:=?_))
  refine WR.nil ?_
  intro w hw
  exact ⟨hl34, ((out_20 ++ [o37.2]), o37.1), h, Γ40, A50, c51, row49, row44, slK, (hw.on [2, 1]), (hl19.trans hl41), ho52, hr45, trivial⟩
 have h := hge32 (igei hb33)
 refine WC.exit ?_
 change WC _ _ _ _ _ _
 refine WC.rs (mV (k:=aV (k:=WR.done ?_)))
 refine WC.ret ?_
 intro w hw
 obtain rfl := Option.some.inj h
 subst hF
 exact aO (is := [1, 0]) (by kernel_rfl) hw rfl ⟨row26, A21, c22, row23, rfl, rfl, ho27, ho24, trivial⟩
abbrev pb (gr_ : Nat) (er_ : Nat) (r : a8 × Ver) (U : List Rowb) (Γ : Gh) (v : Value) : Prop := ∃ (rowr_' : Rowb), ∃ (A0_2 : Option Addr), ∃ (c0_2 : Nat), v = .agg #[.int .i64 r.2.dot.s, .int .i64 r.2.dot.n, .slice A0_2 r.2.past.length c0_2, .bool r.2.gone, .string r.2.val] ∧ U = [rowr_'] ∧ a8.ob er_ Γ gr_ rowr_' r.1 ∧ Ver.fits Γ A0_2 c0_2 r.2 ∧ True
theorem kK {gr_ er_ : Nat} {rowr_ : Rowb} {r_ : a8} (hr_ : a8.ob er_ Γ gr_ rowr_ r_) (hp : Pre [rowr_] Γ w0) {r : Option (a8 × Ver)} (h : fZ r_ = some r) : Calls Tryz.prog 206 #[(pq gr_)] w0 (qj [{ v := (.iface 304 (.agg #[])), recovered := false }] Γ [rowr_] w0 (fun r => pb gr_ er_ r) r) := by
 refine dJ (N := 30) (rs := [.cell 2 37]) (args := [(pq gr_)]) func206 rfl ntmps206 results206 rfl ?_
 obtain ⟨F, hF⟩ : ∃ F : Fm, F = ⟨ids [rowr_], w0, Γ⟩ := ⟨_, rfl⟩
 refine WC.here (C := CC F Γ [rowr_]) ?_ (hF ▸ hp.start)
 refine WC.rs ?_
 refine alV zeroValue37 fun g1 => ?_
 refine WR.done (WC.rs (mV (k:=?_)))
 obtain ⟨z2, hz3, h⟩ := bnd h
 rcases z2 with _ | o4
 ·
  have h := gE rfl h
  refine eo (is := [1]) rfl (caV call247) rfl (fun w hp => gg hr_ hp hz3) ?_
  intro Γ5 hl6
  intro w hw
  obtain rfl := Option.some.inj h
  subst hF
  first | exact bY hw | exact fun _ => bY hw
 have h := gH rfl h
 refine ecV [1] (caV call247) (fun w hp => gg hr_ hp hz3) ?_
 rintro Γ7 _ _ hl8 ⟨row11, rfl, rfl, hr12, hr13, _⟩
 refine cwV 5 [_, _] (sV (aZ (v := .agg #[ii o4.2, ii 0]) rfl (jN rfl) (fun w => by kernel_rfl)) (k:=sV (aZ (v := .agg #[ii o4.2, ii 0, .slice none 0 0, .bool false, .string ByteArray.empty]) rfl (jN rfl) (fun w => by kernel_rfl)) (k:=?_)))
 refine alV zeroValue37 fun g14 => ?_
 refine stV 0 (.agg #[ii o4.2, ii 0, .slice none 0 0, .bool false, .string ByteArray.empty]) #[ii o4.2, ii 0, .slice none 0 0, .bool false, .string ByteArray.empty] sizeOf37 (k:=WR.done (WC.rs (mV (k:=?_))))
 obtain ⟨z15, hz16, h⟩ := bnd h
 rcases z15 with _ | o17
 ·
  have h := gE rfl h
  refine eo (is := [1]) rfl (caV call246) rfl (fun w hp => aN hr12 hp hz16) ?_
  intro Γ18 hl19
  intro w hw
  obtain rfl := Option.some.inj h
  subst hF
  first | exact bY hw | exact fun _ => bY hw
 have h := gH rfl h
 refine ecV [1] (caV call246) (fun w hp => aN hr12 hp hz16) ?_
 rintro Γ20 _ _ hl21 ⟨row24, rfl, rfl, hr25, hr26, _⟩
 refine cwV 9 [_, _, _] (sV (q_fl 0 cg) (k:=sV (q_fl 1 fD) (k:=stV 1 (ii o17.2) #[ii o4.2, ii o17.2, .slice none 0 0, .bool false, .string ByteArray.empty] sizeOf2 (k:=WR.done (WC.rs (mV (k:=mV (k:=?_))))))))
 refine sV (jP (v := .func (.func 249) #[(pq gr_)] #[]) rfl (by kernel_rfl)) (k:=?_)
 obtain ⟨z27, hz28, h⟩ := bnd h
 rcases z27 with _ | o29
 ·
  have h := gE rfl h
  refine eo (is := [0]) rfl (caV call248) rfl (fun w hp => jC hr25 hp hz28) ?_
  intro Γ30 hl31
  intro w hw
  obtain rfl := Option.some.inj h
  subst hF
  first | exact bY hw | exact fun _ => bY hw
 have h := gH rfl h
 refine ecV [0] (caV call248) (fun w hp => jC hr25 hp hz28) ?_
 rintro Γ32 _ _ hl33 ⟨row36, A38, c39, row40, rfl, rfl, hr37, hr41, _⟩
 refine cwV 15 [_, _, _, _] (sV (q_fl 2 fF) (k:=stV 2 (.slice A38 o29.2.length c39) #[ii o4.2, ii o17.2, .slice A38 o29.2.length c39, .bool false, .string ByteArray.empty] sizeOf33 (k:=WR.done ?_)))
 refine WC.cut (fun σ w => ∃ (x44 : Bool), ∃ (x45 : ByteArray), ∃ (o47 : a8), ∃ (Γ42 : Gh), ∃ (row48 : Rowb), ep o4 o17 o29 x44 x45 o47 = some r ∧ slots σ [(2, (pq g1)), (3, (pq g14))] ∧ CC F Γ42 [row48, row40, [(g14, .cells #[ii o4.2, ii o17.2, .slice A38 o29.2.length c39, .bool x44, .string x45] 37 (0, 0))], [(g1, .cells #[ii 0, ii 0, .slice none 0 0, .bool false, .string ByteArray.empty] 37 (0, 0))]] w ∧ Gh.le Γ32 Γ42 ∧ x45.size ≤ lim ∧ a8.ob er_ Γ42 gr_ row48 o47 ∧ True) ?_ ?_
 ·
  refine WC.rs (mV (k:=?_))
  obtain ⟨z50, hz51, h⟩ := bnd h
  rcases z50 with _ | o52
  ·
   have h := gE rfl h
   refine eo (is := [0]) rfl (caV call246) rfl (fun w hp => aN hr37 hp hz51) ?_
   intro Γ53 hl54
   intro w hw
   obtain rfl := Option.some.inj h
   subst hF
   first | exact bY hw | exact fun _ => bY hw
  have h := gH rfl h
  refine ecV [0] (caV call246) (fun w hp => aN hr37 hp hz51) ?_
  rintro Γ55 _ _ hl56 ⟨row59, rfl, rfl, hr60, hr61, _⟩
  refine cwV 18 [_, _, _, _] (WR.done (WC.block (WC.rs (sV bp (k:=aV (k:=WR.done ?_))))))
  refine ciV h (fun hb62 h => ?_) (fun hb62 h => ?_)
  ·
   refine WC.region ?_
   refine mV (k:=?_)
   obtain ⟨z63, hz64, h⟩ := bnd h
   rcases z63 with _ | o65
   ·
    have h := gE rfl h
    refine eo (is := [0]) rfl (caV call204) rfl (fun w hp => ft hr60 hp hz64) ?_
    intro Γ66 hl67
    intro w hw
    obtain rfl := Option.some.inj h
    subst hF
    first | exact bY hw | exact fun _ => bY hw
   have h := gH rfl h
   refine ecV [0] (caV call204) (fun w hp => ft hr60 hp hz64) ?_
   rintro Γ68 _ _ hl69 ⟨row72, rfl, rfl, hr73, hr74, _⟩
   refine cwV 24 [_, _, _, _] (sV (q_fl 4 lk) (k:=stV 2 (.string o65.2) #[ii o4.2, ii o17.2, .slice A38 o29.2.length c39, .bool false, .string o65.2] sizeOf9 (k:=?_)))
   refine WR.nil ?_
   intro w hw
   exact ⟨false, o65.2, o65.1, Γ68, row72, h, slK, hw, (hl56.trans hl69), hr74, hr73, trivial⟩
  refine WC.rs (sV bp (k:=aV (k:=WR.done ?_)))
  refine ciV h (fun hb75 h => ?_) (fun hb75 h => ?_)
  ·
   refine WC.region ?_
   refine sV (q_fl 3 mI) (k:=stV 2 (.bool true) #[ii o4.2, ii o17.2, .slice A38 o29.2.length c39, .bool true, .string ByteArray.empty] sizeOf4 (k:=?_))
   refine WR.nil ?_
   intro w hw
   exact ⟨true, ByteArray.empty, o52.1, Γ55, row59, h, slK, hw, hl56, (show (ByteArray.empty : ByteArray).size ≤ lim by decide), hr60, trivial⟩
  refine WC.region ?_
  refine sV (dP (v := .agg #[]) rfl (fun w => by kernel_rfl)) (k:=sV (eN rfl rfl (fun w => mkif underlying304 w)) (k:=?_))
  refine lH (v := .iface 304 (.agg #[])) rfl (gB rfl rfl) ?_
  intro w hw
  obtain rfl := Option.some.inj h
  subst hF
  first | exact bY hw | exact fun _ => bY hw
 rintro σ w ⟨x44, x45, o47, Γ42, row48, h, hsl, hw, hl43, hr46, ho49, -⟩
 refine slV hsl hw [_, _, _, _] ?_; clear hw hsl
 refine WC.rs (sV (ldaV 2 [ii o4.2, ii o17.2, .slice A38 o29.2.length c39, .bool x44, .string x45] isAgg37 sizeOf37) (k:=stV 3 (.agg #[ii o4.2, ii o17.2, .slice A38 o29.2.length c39, .bool x44, .string x45]) #[ii o4.2, ii o17.2, .slice A38 o29.2.length c39, .bool x44, .string x45] sizeOf37 (k:=WR.done ?_)))
 refine WC.ret ?_
 intro w hw
 have hc82 := (hr41.mono hl43).capz
 obtain ⟨Γ78, hw, hl79, hr80⟩ := hw.seal (i := 1) rfl; have hs81 := (hr41.mono hl43).sl hl79 hr80
 obtain rfl := Option.some.inj h
 subst hF
 exact ⟨[.agg #[ii o4.2, ii o17.2, .slice A38 o29.2.length c39, .bool x44, .string x45]], (dp (i := 3) (us := [ii o4.2, ii o17.2, .slice A38 o29.2.length c39, .bool x44, .string x45]) hw rfl isAgg37 sizeOf37 (by kernel_rfl) rfl dk), aO (is := [0]) (by kernel_rfl) hw rfl ⟨row48, A38, c39, rfl, rfl, (ho49.mono hl79), ⟨hr13, hr26, ⟨hc82, hs81⟩, hr46⟩, trivial⟩⟩
abbrev n3 (gr_ : Nat) (er_ : Nat) (r : a8 × (List Ver)) (U : List Rowb) (Γ : Gh) (v : Value) : Prop := ∃ (rowr_' : Rowb), ∃ (A0 : Option Addr), ∃ (c0 : Nat), ∃ (row0 : Rowb), v = .slice A0 r.2.length c0 ∧ U = [rowr_', row0] ∧ a8.ob er_ Γ gr_ rowr_' r.1 ∧ Own verT Γ 37 row0 A0 c0 r.2 ∧ True
theorem jR {gr_ er_ : Nat} {rowr_ : Rowb} {r_ : a8} (hr_ : a8.ob er_ Γ gr_ rowr_ r_) (hp : Pre [rowr_] Γ w0) {r : Option (a8 × (List Ver))} (h : eO r_ = some r) : Calls Tryz.prog 205 #[(pq gr_), .func (.func 206) #[(pq gr_)] #[]] w0 (qj [{ v := (.iface 304 (.agg #[])), recovered := false }] Γ [rowr_] w0 (fun r => n3 gr_ er_ r) r) := by
 refine goV [4] func205 ntmps205 results205 hp fun F hF => ?_
 refine WC.rs (aV (k:=WR.done (WC.rs (mV (k:=?_)))))
 obtain ⟨z1, hz2, h⟩ := bnd h
 rcases z1 with _ | o3
 ·
  have h := gE rfl h
  refine eo (is := [0]) rfl (caV call246) rfl (fun w hp => aN hr_ hp hz2) ?_
  intro Γ4 hl5
  intro w hw
  obtain rfl := Option.some.inj h
  subst hF
  first | exact bY hw | exact fun _ => bY hw
 have h := gH rfl h
 refine ecV [0] (caV call246) (fun w hp => aN hr_ hp hz2) ?_
 rintro Γ6 _ _ hl7 ⟨row10, rfl, rfl, hr11, hr12, _⟩
 refine cwV 8 [_] (aV (k:=WR.done ?_))
 refine WC.cut (fun σ w => fv o3  = some r ∧ slots σ [(1, .func (.func 206) #[(pq gr_)] #[]), (5, ii o3.2)] ∧ CC F Γ6 [row10] w ∧ True) ?_ ?_
 ·
  refine WC.seq ?_
  obtain ⟨A0_13, c0_13, hrow_13, ho0_13, ho1_13, ho2_13, -⟩ := id hr11
  refine ufC 0 hrow_13 [_] ?_
  refine drV ?_
  refine zV moV (k:=zV moV (k:=zV nlV (k:=zV (q_fl 0 ld) (k:=zV (ldV 0 isAgg70) (k:=zV (ab rfl underlying70) (k:=zV moV (k:=zV nlV (k:=?_))))))))
  refine zV (q_fl 1 jh) (k:=zV (ldV 0 isAgg3) (k:=zV hQ (k:=zV bB (k:=?_))))
  refine WQ.nil ?_
  change WC _ _ _ _ _ _
  refine ciV h (fun hb14 h => ?_) (fun hb14 h => ?_)
  ·
   refine WC.region ?_
   refine sV (dP (v := .agg #[]) rfl (fun w => by kernel_rfl)) (k:=sV (eN rfl rfl (fun w => mkif underlying304 w)) (k:=?_))
   refine lH (v := .iface 304 (.agg #[])) rfl (gB rfl rfl) ?_
   intro w hw
   obtain rfl := Option.some.inj h
   subst hF
   first | exact bY hw | exact fun _ => bY hw
  refine WC.skip ?_
  intro w hw
  have hw := hw.fold (is := [0]) rfl hrow_13
  exact ⟨h, slK, hw, trivial⟩
 rintro σ w ⟨h, hsl, hw, -⟩
 refine slV hsl hw [_] ?_; clear hw hsl
 refine WC.rs (aV (k:=WR.done (WC.seq (WC.rs (mV (k:=mV (k:=WR.done ?_)))))))
 refine WC.block ?_
 refine WC.forU h (fun (i29 : Nat) (s : (List Ver) × a8) σ w => match s with | (out_20, o25) => ∃ (Γ18 : Gh), ∃ (A21 : Option Addr), ∃ (c22 : Nat), ∃ (row23 : Rowb), ∃ (row26 : Rowb), slots σ [(1, .func (.func 206) #[(pq gr_)] #[]), (6, .slice A21 out_20.length c22), (23, ii o3.2), (24, ii (i29 : Int))] ∧ CC F Γ18 [row23, row26] w ∧ Gh.le Γ6 Γ18 ∧ Own verT Γ18 37 row23 A21 c22 out_20 ∧ a8.ob er_ Γ18 gr_ row26 o25 ∧ True) ?_ ?_
 ·
  intro w hw
  have hw := hw.pad
  exact ⟨Γ6, none, 0, [], row10, slK, hw, gR, (Own.nil verT _ 37), hr11, trivial⟩
 rintro f28 i29 ⟨out_20, o25⟩ σ w hi30 hlt31 hge32 ⟨Γ18, A21, c22, row23, row26, hsl, hw, hl19, ho24, ho27, -⟩
 refine slV hsl hw [_, _] ?_; clear hw hsl
 refine WC.rs (sV aS (k:=WR.done (WC.seq ?_)))
 refine coV (fun hb33 => ?_) (fun hb33 => ?_)
 ·
  have hl34 := ilti hb33
  have h := hlt31 hl34
  refine WC.skip (wc_ (WC.seq (WC.block ?_)))
  refine WC.region ?_
  refine mV (k:=mU (v := .func (.func 206) #[(pq gr_)] #[]) (k:=?_))
  obtain ⟨z35, hz36, h⟩ := bnd h
  rcases z35 with _ | o37
  ·
   have h := gE rfl h
   refine eo (is := [1]) rfl (iy (first := #[(pq gr_)]) call206 rfl (by kernel_rfl) (by kernel_rfl)) rfl (fun w hp => kK ho27 hp hz36) ?_
   intro Γ38 hl39
   intro w hw
   obtain rfl := Option.some.inj h
   subst hF
   first | exact bY hw | exact fun _ => bY hw
  have h := gH rfl h
  refine ecV [1] (iy (first := #[(pq gr_)]) call206 rfl (by kernel_rfl) (by kernel_rfl)) (fun w hp => kK ho27 hp hz36) ?_
  rintro Γ40 _ _ hl41 ⟨row44, A46, c47, rfl, rfl, hr45, hr48, _⟩
  refine cwV 28 [_, _] ?_
  refine bsV (Ver.cs A46 c47 o37.2).toArray 37 fun g49 => ?_
  obtain ⟨hk50, h⟩ := ai h
  refine apV 2 [o37.2] zg (ho24.mono hl41) (of_decide_eq_true hk50) (fun w hw => dR (i := 0) rfl (by exact ⟨A46, c47, rfl, hr48⟩) hw) ?_
  intro row51 A52 c53 ho54
  refine aV (k:=?_)
  refine WR.nil ?_
  change WC _ _ _ _ _ _
  refine WC.region ?_
  refine sV (aC rfl rfl rfl (k5 hl34 hr12)) (k:=mV (k:=?_))
  refine WR.nil ?_
  intro w hw
  exact ⟨hl34, ((out_20 ++ [o37.2]), o37.1), h, Γ40, A52, c53, row51, row44, slK, (hw.on [2, 1]), (hl19.trans hl41), ho54, hr45, trivial⟩
 have h := hge32 (igei hb33)
 refine WC.exit ?_
 change WC _ _ _ _ _ _
 refine WC.rs (mV (k:=aV (k:=WR.done ?_)))
 refine WC.ret ?_
 intro w hw
 obtain rfl := Option.some.inj h
 subst hF
 exact aO (is := [1, 0]) (by kernel_rfl) hw rfl ⟨row26, A21, c22, row23, rfl, rfl, ho27, ho24, trivial⟩
abbrev oi (gr_ : Nat) (er_ : Nat) (r : a8 × Rec) (U : List Rowb) (Γ : Gh) (v : Value) : Prop := ∃ (rowr_' : Rowb), ∃ (A0_1 : Option Addr), ∃ (c0_1 : Nat), v = .agg #[.string r.2.key, .slice A0_1 r.2.vers.length c0_1] ∧ U = [rowr_'] ∧ a8.ob er_ Γ gr_ rowr_' r.1 ∧ Rec.fits Γ A0_1 c0_1 r.2 ∧ True
theorem kG {gr_ er_ : Nat} {rowr_ : Rowb} {r_ : a8} (hr_ : a8.ob er_ Γ gr_ rowr_ r_) (hp : Pre [rowr_] Γ w0) {r : Option (a8 × Rec)} (h : gi r_ = some r) : Calls Tryz.prog 153 #[(pq gr_)] w0 (qj [{ v := (.iface 304 (.agg #[])), recovered := false }] Γ [rowr_] w0 (fun r => oi gr_ er_ r) r) := by
 refine dJ (N := 12) (rs := [.cell 2 42]) (args := [(pq gr_)]) func153 rfl ntmps153 results153 rfl ?_
 obtain ⟨F, hF⟩ : ∃ F : Fm, F = ⟨ids [rowr_], w0, Γ⟩ := ⟨_, rfl⟩
 refine WC.here (C := CC F Γ [rowr_]) ?_ (hF ▸ hp.start)
 refine WC.rs ?_
 refine alV zeroValue42 fun g1 => ?_
 refine WR.done (WC.rs (mV (k:=?_)))
 obtain ⟨z2, hz3, h⟩ := bnd h
 rcases z2 with _ | o4
 ·
  have h := gE rfl h
  refine eo (is := [1]) rfl (caV call204) rfl (fun w hp => ft hr_ hp hz3) ?_
  intro Γ5 hl6
  intro w hw
  obtain rfl := Option.some.inj h
  subst hF
  first | exact bY hw | exact fun _ => bY hw
 have h := gH rfl h
 refine ecV [1] (caV call204) (fun w hp => ft hr_ hp hz3) ?_
 rintro Γ7 _ _ hl8 ⟨row11, rfl, rfl, hr12, hr13, _⟩
 refine cwV 5 [_, _] (aV (k:=WR.done (WC.rs (mV (k:=mV (k:=mV (k:=sV (jP (v := .func (.func 206) #[(pq gr_)] #[]) rfl (by kernel_rfl)) (k:=?_))))))))
 obtain ⟨z14, hz15, h⟩ := bnd h
 rcases z14 with _ | o16
 ·
  have h := gE rfl h
  refine eo (is := [0]) rfl (caV call205) rfl (fun w hp => jR hr12 hp hz15) ?_
  intro Γ17 hl18
  intro w hw
  obtain rfl := Option.some.inj h
  subst hF
  first | exact bY hw | exact fun _ => bY hw
 have h := gH rfl h
 refine ecV [0] (caV call205) (fun w hp => jR hr12 hp hz15) ?_
 rintro Γ19 _ _ hl20 ⟨row23, A25, c26, row27, rfl, rfl, hr24, hr28, _⟩
 refine cwV 10 [_, _, _] (sV (aZ (v := .agg #[.string o4.2, .slice A25 o16.2.length c26]) rfl (iE rfl rfl) (fun w => by kernel_rfl)) (k:=stV 2 (.agg #[.string o4.2, .slice A25 o16.2.length c26]) #[.string o4.2, .slice A25 o16.2.length c26] sizeOf42 (k:=WR.done ?_)))
 refine WC.ret ?_
 intro w hw
 have hc33 := hr28.capz
 obtain ⟨Γ29, hw, hl30, hr31⟩ := hw.seal (i := 1) rfl; have hs32 := hr28.sl hl30 hr31
 obtain rfl := Option.some.inj h
 subst hF
 exact ⟨[.agg #[.string o4.2, .slice A25 o16.2.length c26]], (dp (i := 2) (us := [.string o4.2, .slice A25 o16.2.length c26]) hw rfl isAgg42 sizeOf42 (by kernel_rfl) rfl dk), aO (is := [0]) (by kernel_rfl) hw rfl ⟨row23, A25, c26, rfl, rfl, (hr24.mono hl30), ⟨hr13, ⟨hc33, hs32⟩⟩, trivial⟩⟩
set_option maxRecDepth 100000 in
theorem yH (p0 : Value) (p1 : Value) : idle Tryz.prog 203 #[p0, p1] := by
  intro w
  refine uJ (n := 13) (args := [p0, p1]) Tryz.func203 rfl Tryz.ntmps203 Tryz.results203 (pZ rfl rfl) rfl rfl rfl rfl ?_
  refine WC.here (C := fun w2 => w2 = w) ?_ rfl
  refine WC.block ?_
  refine WC.rs ?_
  refine va rfl rfl rfl (xX rfl rfl (fun w => wY Tryz.underlying20 w)) ?_
  refine WR.nil ?_
  change WC _ _ _ _ _ _
  refine WC.ctk (b := true) (by kernel_rfl) rfl ?_
  refine WC.region ?_
  refine va rfl rfl rfl (ck (v := .nilIface) rfl (by kernel_rfl)) ?_
  refine WR.nil ?_
  intro w2 hw
  exact ⟨⟨_, rfl⟩, hw⟩
abbrev lK (gb0 : Nat) (b0v0 : ByteArray) (Ab0v1 : Option Addr) (cb0v1 : Nat) (b0v1 : List Ver) (gb1 : Nat) (b1v : Int) (r : ByteArray × (List Ver) × Int) (U : List Rowb) (Γ : Gh) (v : Value) : Prop := ∃ (Ab0_1 : Option Addr), ∃ (cb0_1 : Nat), v = .tuple #[] ∧ U = [[(gb0, .cells #[.string r.1, .slice Ab0_1 r.2.1.length cb0_1] 42 (0, 0))], [(gb1, .cells #[.int .i64 r.2.2] 28 (0, 0))]] ∧ r.1.size ≤ lim ∧ r.2.1.length ≤ cb0_1 ∧ Sl verT Γ Ab0_1 r.2.1 ∧ I64 r.2.2 ∧ True
theorem iP {gb0 : Nat} (b0v0 : ByteArray) (hb0v0 : b0v0.size ≤ lim) {Ab0v1 : Option Addr} {cb0v1 : Nat} {b0v1 : List Ver} (hb0v1 : Sl verT Γ Ab0v1 b0v1) (hb0v1c : b0v1.length ≤ cb0v1) {gb1 : Nat} (b1v : Int) (hb1v : I64 b1v) (hp : Pre [[(gb0, .cells #[.string b0v0, .slice Ab0v1 b0v1.length cb0v1] 42 (0, 0))], [(gb1, .cells #[ii b1v] 28 (0, 0))]] Γ w0) {r : ByteArray × (List Ver) × Int} (h : fk b0v0 b0v1 b1v = some r) : CallsD Tryz.prog 203 #[(pq gb0), (pq gb1)] (.panicking [{ v := (.iface 304 (.agg #[])), recovered := false }]) w0 (fun e u' w' => u' = .panicking [{ v := (.iface 304 (.agg #[])), recovered := true }] ∧ (Outc Γ [[(gb0, .cells #[.string b0v0, .slice Ab0v1 b0v1.length cb0v1] 42 (0, 0))], [(gb1, .cells #[ii b1v] 28 (0, 0))]] w0 (lK gb0 b0v0 Ab0v1 cb0v1 b0v1 gb1 b1v r)) e w') := by
 refine uQ (n := 13) (args := [(pq gb0), (pq gb1)]) func203 rfl ntmps203 results203 (pZ rfl rfl) rfl rfl rfl rfl ?_
 obtain ⟨F, hF⟩ : ∃ F : Fm, F = ⟨ids [[(gb0, .cells #[.string b0v0, .slice Ab0v1 b0v1.length cb0v1] 42 (0, 0))], [(gb1, .cells #[ii b1v] 28 (0, 0))]], w0, Γ⟩ := ⟨_, rfl⟩
 refine WC.here (C := CC F Γ [[(gb0, .cells #[.string b0v0, .slice Ab0v1 b0v1.length cb0v1] 42 (0, 0))], [(gb1, .cells #[ii b1v] 28 (0, 0))]]) ?_ (hF ▸ hp.start)
 refine WC.block (WC.rs (sV (xV rfl rfl rfl (fun w => zd underlying20 w)) (k:=WR.done ?_)))
 refine WC.cfk (b := false) (by kernel_rfl) rfl ?_
 refine WC.rs (sV (dv underlying304 rfl rfl) (k:=sV exV (k:=sV exV (k:=WR.done ?_))))
 refine WC.ctk (b := true) (by kernel_rfl) rfl ?_
 refine WC.rs ?_
 refine alV zeroValue304 fun g1 => ?_
 refine stV 0 (.agg #[]) #[] sizeOf304 (k:=WR.done (WC.rs ?_))
 refine alV zeroValue42 fun g2 => ?_
 refine WR.done ?_
 refine WC.region ?_
 refine sV (ldaV 0 [.string ByteArray.empty, .slice none 0 0] isAgg42 sizeOf42) (k:=stV 2 (.agg #[.string ByteArray.empty, .slice none 0 0]) #[.string ByteArray.empty, .slice none 0 0] sizeOf42 (k:=stV 3 (ii 2) #[ii 2] sizeOf28 (k:=?_)))
 refine WR.nil ?_
 intro w hw
 obtain rfl := Option.some.inj h
 subst hF
 exact aO (is := [2, 2]) (by kernel_rfl) hw rfl ⟨none, 0, rfl, rfl, (show (ByteArray.empty : ByteArray).size ≤ lim by decide), (Nat.zero_le 0), (Sl.nil verT _ none), iV, trivial⟩
theorem oX {Al : Option Addr} {cl : Nat} {l : List Span} (hl : Sl iU Γ Al l) (hlc : l.length ≤ cl) (hs : Sat Γ w0) {r : Bool} (h : gM l = some r) : CQ Tryz.prog 273 #[.slice Al l.length cl] w0 (.bool r) := by
 refine goQ [2] func273 ntmps273 results273 hs fun F hF => ?_
 refine WC.rs (aV (k:=WR.done (WC.rs (sV (dP (v := .agg #[ii 0, ii 0, ii 0]) rfl (fun w => by kernel_rfl)) (k:=?_)))))
 refine alV zeroValue277 fun g1 => ?_
 refine stV 0 (.agg #[ii 0, ii 0, ii 0]) #[ii 0, ii 0, ii 0] sizeOf277 (k:=WR.done (WC.seq (WC.rs (mV (k:=sV (ab rfl underlying33) (k:=mV (k:=WR.done ?_)))))))
 refine WC.block ?_
 refine WC.forI h (fun (i5 : Nat) (x2 : Span) σ w => slots σ [(0, .slice Al l.length cl), (3, (pq g1)), (7, .slice Al l.length cl), (8, ii (l.length : Int)), (9, ii (i5 : Int))] ∧ CC F Γ [[(g1, .cells (Span.cs x2).toArray 277 (0, 0))]] w ∧ Span.fits Γ  x2 ∧ True) ?_ ?_
 ·
  intro w hw
  exact ⟨slK, hw, ⟨iV, iV, iV⟩, trivial⟩
 rintro f4 i5 x2 σ w hi6 hlt7 hge8 ⟨hsl, hw, hf3, -⟩
 refine slV hsl hw [_] ?_; clear hw hsl
 refine WC.rs (sV aS (k:=WR.done (WC.seq ?_)))
 refine coV (fun hb9 => ?_) (fun hb9 => ?_)
 ·
  have hl10 := ilt hb9
  have h := hlt7 hl10
  refine WC.skip (wc_ (WC.seq (WC.block (WC.rs (sV (bb (i := i5) underlying33 sizeOf277 rfl rfl rfl hl10 (hl.some_ hl10)) (k:=sV (gY (c := 0) (vs := (Span.cs (gt l i5))) (hl.spanT_at hl10).2 rfl isAgg277 sizeOf277 rfl rfl rfl) (k:=?_)))))))
  refine alV zeroValue277 fun g11 => ?_
  refine stV 0 (.agg (Span.cs (gt l i5)).toArray) (Span.cs (gt l i5)).toArray sizeOf277 (k:=WR.done (WC.seq (WC.rs (sV (q_fl 0 fL) (k:=sV (ldV 0 isAgg3) (k:=sV aS (k:=mV (k:=?_))))))))
  refine vG0 (h:=fun hg12 => q_fl 0 fL) (k:=vG0 (h:=fun hg13 => ldV 0 isAgg3 (hx:=grV hg13)) (k:=vG0 (h:=fun hg14 => bB rfl (grV hg14)) (k:=sV pkO (k:=mV (k:=vG0 (h:=fun hg15 => q_fl 1 gP) (k:=vG0 (h:=fun hg16 => ldV 0 isAgg2 (hx:=grV hg16)) (k:=vG0 (h:=fun hg17 => aS rfl (grV hg17)) (k:=?_))))))))
  refine sV pkO (k:=mV (k:=vG0 (h:=fun hg18 => q_fl 1 gP) (k:=vG0 (h:=fun hg19 => ldV 0 isAgg2 (hx:=grV hg19)) (k:=vG0 (h:=fun hg20 => q_fl 2 fK) (k:=vG0 (h:=fun hg21 => ldV 0 isAgg2 (hx:=grV hg21)) (k:=vG0 (h:=fun hg22 => bB rfl (grV hg22) (grV hg22)) (k:=sV pkO (k:=?_))))))))
  refine mV (k:=vG0 (h:=fun hg23 => q_fl 2 fK) (k:=vG0 (h:=fun hg24 => ldV 0 isAgg2 (hx:=grV hg24)) (k:=vG0 (h:=fun hg25 => bB rfl (grV hg25)) (k:=sV pkO (k:=mV (k:=vG0 (h:=fun hg26 => q_fl 0 fL) (k:=vG0 (h:=fun hg27 => ldV 0 isAgg3 (hx:=grV hg27)) (k:=?_))))))))
  refine vG0 (h:=fun hg28 => q_fl 0 fL) (k:=vG0 (h:=fun hg29 => ldV 1 isAgg3 (hx:=grV hg29)) (k:=vG0 (h:=fun hg30 => aS rfl (grV hg30) (grV hg30)) (k:=sV pkO (k:=mV (k:=vG0 (h:=fun hg31 => q_fl 0 fL) (k:=vG0 (h:=fun hg32 => ldV 0 isAgg3 (hx:=grV hg32)) (k:=vG0 (h:=fun hg33 => q_fl 0 fL) (k:=?_))))))))
  refine vG0 (h:=fun hg34 => ldV 1 isAgg3 (hx:=grV hg34)) (k:=vG0 (h:=fun hg35 => bp rfl (grV hg35) (grV hg35)) (k:=vG0 (h:=fun hg36 => ay (v := .bool ((gt l i5).s == x2.s)) rfl (grV hg36)) (k:=vh1 (c0 := (!((((((decide ((gt l i5).s < 1)) || (decide (16 < (gt l i5).s))) || (decide ((gt l i5).f < 1))) || (decide ((gt l i5).t < (gt l i5).f))) || (decide (4611686018427387904 < (gt l i5).t))) || (decide ((gt l i5).s < x2.s))))) (g := ((gt l i5).s == x2.s)) rfl rfl rfl rfl rfl (fun _ => QV.qo (q_fl 1 gP)) (vh1 (c0 := (!((((((decide ((gt l i5).s < 1)) || (decide (16 < (gt l i5).s))) || (decide ((gt l i5).f < 1))) || (decide ((gt l i5).t < (gt l i5).f))) || (decide (4611686018427387904 < (gt l i5).t))) || (decide ((gt l i5).s < x2.s))))) (g := ((gt l i5).s == x2.s)) rfl rfl rfl rfl rfl (fun hg38 => QV.qo (ldV 0 isAgg2 (hx:=grV hg38))) (vh1 (c0 := (!((((((decide ((gt l i5).s < 1)) || (decide (16 < (gt l i5).s))) || (decide ((gt l i5).f < 1))) || (decide ((gt l i5).t < (gt l i5).f))) || (decide (4611686018427387904 < (gt l i5).t))) || (decide ((gt l i5).s < x2.s))))) (g := ((gt l i5).s == x2.s)) rfl rfl rfl rfl rfl (fun _ => QV.qo (q_fl 2 fK)) ?_)))))
  refine vh1 (c0 := (!((((((decide ((gt l i5).s < 1)) || (decide (16 < (gt l i5).s))) || (decide ((gt l i5).f < 1))) || (decide ((gt l i5).t < (gt l i5).f))) || (decide (4611686018427387904 < (gt l i5).t))) || (decide ((gt l i5).s < x2.s))))) (g := ((gt l i5).s == x2.s)) rfl rfl rfl rfl rfl (fun hg40 => QV.qo (ldV 1 isAgg2 (hx:=grV hg40))) (vh1 (c0 := (!((((((decide ((gt l i5).s < 1)) || (decide (16 < (gt l i5).s))) || (decide ((gt l i5).f < 1))) || (decide ((gt l i5).t < (gt l i5).f))) || (decide (4611686018427387904 < (gt l i5).t))) || (decide ((gt l i5).s < x2.s))))) (g := ((gt l i5).s == x2.s)) rfl rfl rfl rfl rfl (fun hg41 => QV.qo (eE rfl (grV hg41))) (vh1 (c0 := (!((((((decide ((gt l i5).s < 1)) || (decide (16 < (gt l i5).s))) || (decide ((gt l i5).f < 1))) || (decide ((gt l i5).t < (gt l i5).f))) || (decide (4611686018427387904 < (gt l i5).t))) || (decide ((gt l i5).s < x2.s))))) (g := ((gt l i5).s == x2.s)) rfl rfl rfl rfl rfl (fun hg42 => QV.qo (gm rfl (grV hg42) (grV hg42))) (vG0 (h:=fun hg43 => fU rfl (grV hg43) (kX (c := (!((((((decide ((gt l i5).s < 1)) || (decide (16 < (gt l i5).s))) || (decide ((gt l i5).f < 1))) || (decide ((gt l i5).t < (gt l i5).f))) || (decide (4611686018427387904 < (gt l i5).t))) || (decide ((gt l i5).s < x2.s))))) (g := ((gt l i5).s == x2.s)) (y := (decide ((gt l i5).f ≤ (w64 (x2.t + 1))))) hg43)) (k:=sV pkO (k:=WR.done ?_)))))
  refine ciV h (fun hb44 h => ?_) (fun hb44 h => ?_)
  ·
   refine WC.rs (aV (k:=WR.done ?_))
   exact WC.ret fun w hw => rq_ r h hF hw
  refine WC.skip (wc_ ?_)
  refine WC.region ?_
  refine sV (ldaV 0 (Span.cs (gt l i5)) isAgg277 sizeOf277) (k:=stV 1 (.agg (Span.cs (gt l i5)).toArray) (Span.cs (gt l i5)).toArray sizeOf277 (k:=?_))
  refine WR.nil ?_
  change WC _ _ _ _ _ _
  refine WC.region ?_
  refine sV (aC rfl rfl rfl (aP hl10 hl.le)) (k:=mV (k:=?_))
  refine WR.nil ?_
  intro w hw
  exact ⟨hl10, (gt l i5), h, slK, (hw.on [1]), (hl.spanT_at hl10).1, trivial⟩
 have h := hge8 (ige hb9)
 refine WC.exit ?_
 change WC _ _ _ _ _ _
 refine WC.rs (mV (k:=sV (ab rfl underlying33) (k:=sV gm (k:=aV (k:=WR.done ?_)))))
 exact WC.ret fun w hw => rq_ r h hF hw
theorem vd {Al : Option Addr} {cl : Nat} {l : List Span} (hl : Sl iU Γ Al l) (hlc : l.length ≤ cl) (s_ : Int) (hs_ : I64 s_) (hs : Sat Γ w0) {r : Int} (h : lz l s_ = some r) : CQ Tryz.prog 274 #[.slice Al l.length cl, ii s_] w0 (ii r) := by
 refine goQ [4] func274 ntmps274 results274 hs fun F hF => ?_
 refine WC.rs (aV (k:=WR.done (WC.rs (aV (k:=WR.done (WC.seq (WC.rs ?_)))))))
 refine mV (k:=sV (ab rfl underlying33) (k:=mV (k:=WR.done (WC.block ?_))))
 refine WC.forI h (fun (i4 : Nat) (top_1 : Int) σ w => slots σ [(1, ii s_), (5, ii top_1), (8, .slice Al l.length cl), (9, ii (l.length : Int)), (10, ii (i4 : Int))] ∧ CC F Γ [] w ∧ I64 top_1 ∧ True) ?_ ?_
 ·
  intro w hw
  exact ⟨slK, hw, iV, trivial⟩
 rintro f3 i4 top_1 σ w hi5 hlt6 hge7 ⟨hsl, hw, hr2, -⟩
 refine slV hsl hw [] ?_; clear hw hsl
 refine WC.rs (sV aS (k:=WR.done (WC.seq ?_)))
 refine coV (fun hb8 => ?_) (fun hb8 => ?_)
 ·
  have hl9 := ilt hb8
  have h := hlt6 hl9
  refine WC.skip (wc_ ?_)
  refine WC.cut (fun σ w => ∃ (top_10 : Int), jj f3 top_10 = some r ∧ slots σ [(1, ii s_), (5, ii top_10), (8, .slice Al l.length cl), (9, ii (l.length : Int)), (10, ii (i4 : Int))] ∧ CC F Γ [] w ∧ I64 top_10 ∧ True) ?_ ?_
  ·
   refine WC.block (WC.rs (sV (bb (i := i4) underlying33 sizeOf277 rfl rfl rfl hl9 (hl.some_ hl9)) (k:=sV (gY (c := 0) (vs := (Span.cs (gt l i4))) (hl.spanT_at hl9).2 rfl isAgg277 sizeOf277 rfl rfl rfl) (k:=?_))))
   refine alV zeroValue277 fun g12 => ?_
   refine stV 0 (.agg (Span.cs (gt l i4)).toArray) (Span.cs (gt l i4)).toArray sizeOf277 (k:=WR.done (WC.rs (sV (q_fl 0 fL) (k:=sV (ldV 0 isAgg3) (k:=mV (k:=sV bp (k:=WR.done ?_)))))))
   refine ciV h (fun hb13 h => ?_) (fun hb13 h => ?_)
   ·
    refine WC.region ?_
    refine mV (k:=sV (q_fl 2 fK) (k:=sV (ldV 0 isAgg2) (k:=sV qQ (k:=aV (k:=?_)))))
    refine WR.nil ?_
    intro w hw
    exact ⟨(max top_1 (gt l i4).t), h, slK, (hw.on []), (xj hr2 (hl.spanT_at hl9).1.2.2), trivial⟩
   refine WC.skip ?_
   intro w hw
   exact ⟨top_1, h, slK, (hw.on []), hr2, trivial⟩
  rintro σ w ⟨top_10, h, hsl, hw, hr11, -⟩
  refine slV hsl hw [] ?_; clear hw hsl
  refine WC.region ?_
  refine sV (aC rfl rfl rfl (aP hl9 hl.le)) (k:=mV (k:=?_))
  refine WR.nil ?_
  intro w hw
  exact ⟨hl9, top_10, h, slK, hw, hr11, trivial⟩
 have h := hge7 (ige hb8)
 refine WC.exit ?_
 change WC _ _ _ _ _ _
 refine WC.rs (mV (k:=aV (k:=WR.done ?_)))
 exact WC.ret fun w hw => rq_ r h hF hw
theorem qs {Av_2 : Option Addr} {cv_2 : Nat} (v_ : Ver) (hv_ : Ver.fits Γ Av_2 cv_2 v_) (hs : Sat Γ w0) {r : Bool} (h : dX v_ = some r) : CQ Tryz.prog 237 #[.agg (Ver.cs Av_2 cv_2 v_).toArray] w0 (.bool r) := by
 refine goQ [2] func237 ntmps237 results237 hs fun F hF => ?_
 refine WC.rs ?_
 refine bxV (v := .agg (Ver.cs Av_2 cv_2 v_).toArray) fun g1 => ?_
 refine aV (k:=WR.done (WC.rs (sV (q_fl 0 cg) (k:=sV (q_fl 0 cP) (k:=sV (ldV 0 isAgg3) (k:=sV (q_fl 0 cg) (k:=sV (q_fl 1 fD) (k:=?_))))))))
 refine sV (ldV 0 isAgg2) (k:=sV (q_fl 0 cg) (k:=sV (q_fl 1 fD) (k:=sV (ldV 0 isAgg2) (k:=sV (aZ (v := .agg #[ii v_.dot.s, ii v_.dot.n, ii v_.dot.n]) rfl (rH rfl rfl rfl) (fun w => by kernel_rfl)) (k:=?_)))))
 refine alV zeroValue277 fun g2 => ?_
 refine stV 0 (.agg #[ii v_.dot.s, ii v_.dot.n, ii v_.dot.n]) #[ii v_.dot.s, ii v_.dot.n, ii v_.dot.n] sizeOf277 (k:=WR.done (WC.seq ?_))
 refine leV fun h03 => ?_
 refine eD (CC F Γ [[(g2, .cells #[ii v_.dot.s, ii v_.dot.n, ii v_.dot.n] 277 (0, 0))], [(g1, .cells (Ver.cs Av_2 cv_2 v_).toArray 37 (0, 0))]]) (bo_ [0, 0] gR h03) fun k => ?_
 change WH _ _ _ _ (CC F Γ [_, _]) _ 37 _ _
 refine hV 0 k (q:=ldaV 0 [ii v_.dot.s, ii v_.dot.n, ii v_.dot.n] isAgg277 sizeOf277) (k:=wl_ 1 rfl ?_)
 refine bsV #[ii v_.dot.s, ii v_.dot.n, ii v_.dot.n] 277 fun g4 => ?_
 refine WR.nil (nxV (bo_ [1, 1] gR h03) fun k => ?_)
 refine wl_ 2 rfl ?_
 have ho5 : Own iU Γ 277 [(g4, .cells #[ii v_.dot.s, ii v_.dot.n, ii v_.dot.n] 277 (0, 0))] (some ⟨g4, 0, none⟩) 1 [(⟨v_.dot.s, v_.dot.n, v_.dot.n⟩ : Span)] := Own.of_blockL (T := iU) (ys := [(⟨v_.dot.s, v_.dot.n, v_.dot.n⟩ : Span)]) [[ii v_.dot.s, ii v_.dot.n, ii v_.dot.n]] rfl (show 1 ≤ lim by decide) ⟨⟨rfl, ⟨hv_.1, hv_.2.1, hv_.2.1⟩⟩, trivial⟩
 obtain ⟨z6, hz7, h⟩ := bnd h
 refine vqV (caV call273) (fun w hw => oX (Γ := Gh.all w) (ho5.sl hw.sat.le_all (hw.ra 0 rfl)) ho5.capz (Sat.all w) hz7) (k:=?_)
 refine WR.nil (nxV (bo_ [1, 1] gR h03) fun k => ?_)
 refine hV 3 k (q:=moV) (k:=hV1 4 k (h:=fun hg8 => q_fl 2 fF) (k:=hV1 5 k (h:=fun hg9 => ldV 1 isAgg33 (hx:=grV hg9)) (k:=wl_ 6 rfl ?_)))
 obtain ⟨z11, hz12, h⟩ := bnd h
 refine vC1 (h:=fun hg10 => bl (aR call273 rfl rfl (mB (grV hg10))) (fun w hw => oX (Γ := Gh.all w) (hv_.2.2.1.2.mono hw.sat.le_all) hv_.2.2.1.1 (Sat.all w) (eQ hz12 hg10))) (k:=?_)
 refine WR.nil (nxV (bo_ [1, 1] gR h03) fun k => ?_)
 refine hV 7 k (q:=pkA) (k:=hV 8 k (q:=moV) (k:=hV1 9 k (h:=fun hg13 => q_fl 2 fF) (k:=hV1 10 k (h:=fun hg14 => ldV 1 isAgg33 (hx:=grV hg14)) (k:=hV1 11 k (h:=fun hg15 => q_fl 0 cg) (k:=hV1 12 k (h:=fun hg16 => q_fl 0 cP rfl (grV hg16)) (k:=hV1 13 k (h:=fun hg17 => ldV 1 isAgg3 (hx:=grV hg17)) (k:=hV1 15 k (h:=fun hg18 => q_fl 0 cg) (k:=?_))))))))
 refine hV1 16 k (h:=fun hg19 => q_fl 1 fD rfl (grV hg19)) (k:=hV1 17 k (h:=fun hg20 => ldV 1 isAgg2 (hx:=grV hg20)) (k:=wl_ 14 rfl ?_))
 obtain ⟨z22, hz23, h⟩ := bnd h
 refine vC1 (h:=fun hg21 => bl (aR call274 rfl rfl (fh (grV hg21) (grV hg21))) (fun w hw => vd (Γ := Gh.all w) (hv_.2.2.1.2.mono hw.sat.le_all) hv_.2.2.1.1 v_.dot.s hv_.1 (Sat.all w) (eQ hz23 hg21))) (k:=?_)
 refine WR.nil (nxV (bo_ [1, 1] gR h03) fun k => ?_)
 refine hV1 18 k (h:=fun hg24 => aS rfl (grV hg24) (grV hg24)) (k:=hV 19 k (q:=pkA) (k:=hV 20 k (q:=moV) (k:=hV1 21 k (h:=fun hg25 => q_fl 4 lk) (k:=hV1 22 k (h:=fun hg26 => ldV 1 isAgg9 (hx:=grV hg26)) (k:=hV1 23 k (h:=fun hg27 => cJ rfl underlying9 (grV hg27)) (k:=hV1 24 k (h:=fun hg28 => gm rfl (grV hg28)) (k:=hV 25 k (q:=pkA) (k:=?_))))))))
 refine hV 26 k (q:=moV) (k:=hV1 27 k (h:=fun hg29 => q_fl 3 mI) (k:=hV1 28 k (h:=fun hg30 => ldV 1 isAgg4 (hx:=grV hg30)) (k:=hV1 29 k (h:=fun hg31 => bu rfl (grV hg31)) (k:=hV1 30 k (h:=fun hg32 => ay (v := .bool (!v_.gone)) rfl (grV hg32)) (k:=?_)))))
 refine hh0 (c0 := (((z6 && z11) && (decide (z22 < v_.dot.n))) && (decide ((v_.val.size : Int) ≤ 256)))) (g := (!v_.gone)) (i := 31) rfl (by kernel_rfl) rfl rfl rfl rfl rfl k (fun _ => (q_fl 4 lk)) ?_
 refine hh0 (c0 := (((z6 && z11) && (decide (z22 < v_.dot.n))) && (decide ((v_.val.size : Int) ≤ 256)))) (g := (!v_.gone)) (i := 32) rfl (by kernel_rfl) rfl rfl rfl rfl rfl k (fun hg34 => (ldV 1 isAgg9 (hx:=grV hg34))) ?_
 refine hh0 (c0 := (((z6 && z11) && (decide (z22 < v_.dot.n))) && (decide ((v_.val.size : Int) ≤ 256)))) (g := (!v_.gone)) (i := 33) rfl (by kernel_rfl) rfl rfl rfl rfl rfl k (fun hg35 => (rC rfl (grV hg35))) ?_
 refine hV1 34 k (h:=fun hg36 => fU rfl (grV hg36) (Ar (c := (((z6 && z11) && (decide (z22 < v_.dot.n))) && (decide ((v_.val.size : Int) ≤ 256)))) (g := (!v_.gone)) (y := (v_.val == ByteArray.empty)) hg36)) (k:=hV 35 k (q:=pkA) (k:=hV 36 k (q:=aoV) (k:=?_)))
 refine WH.done (by kernel_rfl) ?_
 change WC _ _ _ _ _ _
 exact WC.ret fun w hw => rq_ r h hF hw
theorem rP (a : Dot) (ha : Dot.fits Γ  a) (b : Dot) (hb : Dot.fits Γ  b) (hs : Sat Γ w0) {r : Bool} (h : kZ a b = some r) : CQ Tryz.prog 238 #[.agg (Dot.cs a).toArray, .agg (Dot.cs b).toArray] w0 (.bool r) := by
 refine goQ [4] func238 ntmps238 results238 hs fun F hF => ?_
 refine WC.rs ?_
 refine bxV (v := .agg (Dot.cs a).toArray) fun g1 => ?_
 refine bxV (v := .agg (Dot.cs b).toArray) fun g2 => ?_
 refine aV (k:=WR.done (WC.rs (sV (q_fl 0 cP) (k:=sV (ldV 1 isAgg3) (k:=sV (q_fl 0 cP) (k:=sV (ldV 0 isAgg3) (k:=sV aS (k:=?_))))))))
 refine mV (k:=vG0 (h:=fun hg3 => q_fl 0 cP) (k:=vG0 (h:=fun hg4 => ldV 1 isAgg3 (hx:=grV hg4)) (k:=vG0 (h:=fun hg5 => q_fl 0 cP) (k:=vG0 (h:=fun hg6 => ldV 0 isAgg3 (hx:=grV hg6)) (k:=vG0 (h:=fun hg7 => bp rfl (grV hg7) (grV hg7)) (k:=vG0 (h:=fun hg8 => ay (v := .bool (a.s == b.s)) rfl (grV hg8)) (k:=vh1 (c0 := (!(decide (a.s < b.s)))) (g := (a.s == b.s)) rfl rfl rfl rfl rfl (fun _ => QV.qo (q_fl 1 fD)) ?_)))))))
 refine vh1 (c0 := (!(decide (a.s < b.s)))) (g := (a.s == b.s)) rfl rfl rfl rfl rfl (fun hg10 => QV.qo (ldV 1 isAgg2 (hx:=grV hg10))) (vh1 (c0 := (!(decide (a.s < b.s)))) (g := (a.s == b.s)) rfl rfl rfl rfl rfl (fun _ => QV.qo (q_fl 1 fD)) (vh1 (c0 := (!(decide (a.s < b.s)))) (g := (a.s == b.s)) rfl rfl rfl rfl rfl (fun hg12 => QV.qo (ldV 0 isAgg2 (hx:=grV hg12))) (vh1 (c0 := (!(decide (a.s < b.s)))) (g := (a.s == b.s)) rfl rfl rfl rfl rfl (fun hg13 => QV.qo (aS rfl (grV hg13) (grV hg13))) (vG0 (h:=fun hg14 => fU rfl (grV hg14) (kX (c := (!(decide (a.s < b.s)))) (g := (a.s == b.s)) (y := (decide (a.n < b.n))) hg14)) (k:=sV pkO (k:=aV (k:=WR.done ?_)))))))
 exact WC.ret fun w hw => rq_ r h hF hw
theorem uW {Al : Option Addr} {cl : Nat} {l : List Span} (hl : Sl iU Γ Al l) (hlc : l.length ≤ cl) (d : Dot) (hd : Dot.fits Γ  d) (hs : Sat Γ w0) {r : Bool} (h : nN l d = some r) : CQ Tryz.prog 275 #[.slice Al l.length cl, .agg (Dot.cs d).toArray] w0 (.bool r) := by
 refine goQ [4] func275 ntmps275 results275 hs fun F hF => ?_
 refine WC.rs ?_
 refine bxV (v := .agg (Dot.cs d).toArray) fun g1 => ?_
 refine aV (k:=WR.done (WC.seq (WC.rs (mV (k:=sV (ab rfl underlying33) (k:=mV (k:=WR.done ?_)))))))
 refine WC.block ?_
 refine WC.forI h (fun (i3 : Nat) (s : Unit) σ w => match s with | () => slots σ [(3, (pq g1)), (7, .slice Al l.length cl), (8, ii (l.length : Int)), (9, ii (i3 : Int))] ∧ CC F Γ [[(g1, .cells (Dot.cs d).toArray 35 (0, 0))]] w ∧ True) ?_ ?_
 ·
  intro w hw
  exact ⟨slK, hw, trivial⟩
 rintro f2 i3 ⟨⟩ σ w hi4 hlt5 hge6 ⟨hsl, hw, -⟩
 refine slV hsl hw [_] ?_; clear hw hsl
 refine WC.rs (sV aS (k:=WR.done (WC.seq ?_)))
 refine coV (fun hb7 => ?_) (fun hb7 => ?_)
 ·
  have hl8 := ilt hb7
  have h := hlt5 hl8
  refine WC.skip (wc_ (WC.seq (WC.block (WC.rs (sV (bb (i := i3) underlying33 sizeOf277 rfl rfl rfl hl8 (hl.some_ hl8)) (k:=sV (gY (c := 0) (vs := (Span.cs (gt l i3))) (hl.spanT_at hl8).2 rfl isAgg277 sizeOf277 rfl rfl rfl) (k:=?_)))))))
  refine alV zeroValue277 fun g9 => ?_
  refine stV 0 (.agg (Span.cs (gt l i3)).toArray) (Span.cs (gt l i3)).toArray sizeOf277 (k:=WR.done (WC.rs (sV (q_fl 0 fL) (k:=sV (ldV 0 isAgg3) (k:=sV (q_fl 0 cP) (k:=sV (ldV 1 isAgg3) (k:=sV bp (k:=?_))))))))
  refine mV (k:=vG1 (h:=fun hg10 => q_fl 1 gP) (k:=vG1 (h:=fun hg11 => ldV 0 isAgg2 (hx:=grV hg11)) (k:=vG1 (h:=fun hg12 => q_fl 1 fD) (k:=vG1 (h:=fun hg13 => ldV 1 isAgg2 (hx:=grV hg13)) (k:=vG1 (h:=fun hg14 => gm rfl (grV hg14) (grV hg14)) (k:=sV pkA (k:=mV (k:=?_))))))))
  refine vG1 (h:=fun hg15 => q_fl 1 fD) (k:=vG1 (h:=fun hg16 => ldV 1 isAgg2 (hx:=grV hg16)) (k:=vG1 (h:=fun hg17 => q_fl 2 fK) (k:=vG1 (h:=fun hg18 => ldV 0 isAgg2 (hx:=grV hg18)) (k:=vG1 (h:=fun hg19 => gm rfl (grV hg19) (grV hg19)) (k:=sV pkA (k:=WR.done ?_))))))
  refine ciV h (fun hb20 h => ?_) (fun hb20 h => ?_)
  ·
   refine WC.rs (aV (k:=WR.done ?_))
   exact WC.ret fun w hw => rq_ r h hF hw
  refine WC.skip (wc_ ?_)
  refine WC.region ?_
  refine sV (aC rfl rfl rfl (aP hl8 hl.le)) (k:=mV (k:=?_))
  refine WR.nil ?_
  intro w hw
  exact ⟨hl8, (), h, slK, (hw.on [1]), trivial⟩
 have h := hge6 (ige hb7)
 refine WC.exit ?_
 change WC _ _ _ _ _ _
 refine WC.rs (aV (k:=WR.done ?_))
 exact WC.ret fun w hw => rq_ r h hF hw
theorem rO (d : Dot) (hd : Dot.fits Γ  d) {Al : Option Addr} {cl : Nat} {l : List Ver} (hl : Sl verT Γ Al l) (hlc : l.length ≤ cl) (hs : Sat Γ w0) {r : Bool} (h : jo d l = some r) : CQ Tryz.prog 239 #[.agg (Dot.cs d).toArray, .slice Al l.length cl] w0 (.bool r) := by
 refine goQ [4] func239 ntmps239 results239 hs fun F hF => ?_
 refine WC.rs ?_
 refine bxV (v := .agg (Dot.cs d).toArray) fun g1 => ?_
 refine aV (k:=WR.done (WC.seq (WC.rs (mV (k:=sV (ab rfl underlying40) (k:=mV (k:=WR.done ?_)))))))
 refine WC.block ?_
 refine WC.forI h (fun (i3 : Nat) (s : Unit) σ w => match s with | () => slots σ [(2, (pq g1)), (7, .slice Al l.length cl), (8, ii (l.length : Int)), (9, ii (i3 : Int))] ∧ CC F Γ [[(g1, .cells (Dot.cs d).toArray 35 (0, 0))]] w ∧ True) ?_ ?_
 ·
  intro w hw
  exact ⟨slK, hw, trivial⟩
 rintro f2 i3 ⟨⟩ σ w hi4 hlt5 hge6 ⟨hsl, hw, -⟩
 refine slV hsl hw [_] ?_; clear hw hsl
 refine WC.rs (sV aS (k:=WR.done (WC.seq ?_)))
 refine coV (fun hb7 => ?_) (fun hb7 => ?_)
 ·
  have hl8 := ilt hb7
  have h := hlt5 hl8
  refine WC.skip (wc_ (WC.seq (WC.block (WC.rs (sV (bb (i := i3) underlying40 sizeOf37 rfl rfl rfl hl8 (hl.some_ hl8)) (k:=?_))))))
  obtain ⟨A9, c10, hx11⟩ := hl.verT_at i3
  refine sV (gY (c := 0) (vs := (Ver.cs A9 c10 (gt l i3))) (hx11 hl8).2 rfl isAgg37 sizeOf37 rfl rfl rfl) (k:=?_)
  refine alV zeroValue37 fun g12 => ?_
  refine stV 0 (.agg (Ver.cs A9 c10 (gt l i3)).toArray) (Ver.cs A9 c10 (gt l i3)).toArray sizeOf37 (k:=WR.done (WC.rs (sV (q_fl 2 fF) (k:=sV (ldV 0 isAgg33) (k:=sV (ldaV 1 (Dot.cs d) isAgg35 sizeOf35) (k:=?_))))))
  obtain ⟨z13, hz14, h⟩ := bnd h
  refine vqV (caV call275) (fun w hw => uW (Γ := Gh.all w) ((hx11 hl8).1.2.2.1.2.mono hw.sat.le_all) (hx11 hl8).1.2.2.1.1 d hd (Sat.all w) hz14) (k:=WR.done ?_)
  refine ciV h (fun hb15 h => ?_) (fun hb15 h => ?_)
  ·
   refine WC.rs (aV (k:=WR.done ?_))
   exact WC.ret fun w hw => rq_ r h hF hw
  refine WC.skip (wc_ ?_)
  refine WC.region ?_
  refine sV (aC rfl rfl rfl (aP hl8 hl.le)) (k:=mV (k:=?_))
  refine WR.nil ?_
  intro w hw
  exact ⟨hl8, (), h, slK, (hw.on [1]), trivial⟩
 have h := hge6 (ige hb7)
 refine WC.exit ?_
 change WC _ _ _ _ _ _
 refine WC.rs (aV (k:=WR.done ?_))
 exact WC.ret fun w hw => rq_ r h hF hw
end Fw
end Go.Proofs.YtlfmppjcgaekhaaGreat
