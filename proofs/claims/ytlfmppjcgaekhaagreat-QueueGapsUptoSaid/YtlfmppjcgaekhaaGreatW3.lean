/- Walks through the functions that the law reaches (printed by a program). No condition. -/
import Derived.Test.YtlfmppjcgaekhaaGreatW2
namespace Go.Proofs.YtlfmppjcgaekhaaGreat
namespace Fw
set_option linter.unusedVariables false
set_option linter.unusedSimpArgs false
set_option linter.unusedSectionVars false
set_option maxRecDepth 100000
set_option maxHeartbeats 400000
open Go.RowKit
open Go.Proofs.Tryz
variable {Γ : Gh} {w0 : World}
abbrev sJ (gd : Nat) (ed : Nat) (r : a7 × (Option a6) × Int) (U : List Rowb) (Γ : Gh) (v : Value) : Prop := ∃ (rowd' : Rowb), ∃ (g0 : Nat), ∃ (row0 : Rowb), v = .tuple #[optp r.2.1 g0, .int .i64 r.2.2] ∧ U = [rowd', row0] ∧ a7.ob ed Γ gd rowd' r.1 ∧ uc (a6.ob (84, gd) Γ g0) row0 r.2.1 ∧ I64 r.2.2 ∧ True
theorem k4 {gd ed : Nat} {rowd : Rowb} {d : a7} (hd : a7.ob ed Γ gd rowd d) (size : Int) (hsize : I64 size) {Ac_2 : Option Addr} {cc_2 : Nat} {Ac_5 : Option Addr} {cc_5 : Nat} (c_ : aa) (hc_ : aa.fits Γ Ac_2 cc_2 Ac_5 cc_5 c_) (hp : Pre [rowd] Γ w0) {r : a7 × (Option a6) × Int} (h : ea d size c_ = some r) : Calls Tryz.prog 8 #[(pq gd), ii size, .agg (aa.cs Ac_2 cc_2 Ac_5 cc_5 c_).toArray] w0 (Outc Γ [rowd] w0 (sJ gd ed r)) := by
 refine goV [6, 7] func8 ntmps8 results8 hp fun F hF => ?_
 refine WC.rs ?_
 refine bxV (v := .agg (aa.cs Ac_2 cc_2 Ac_5 cc_5 c_).toArray) fun g1 => ?_
 refine aV (k:=aV (k:=WR.done (WC.seq (WC.rs (sV (ldaV 0 (aa.cs Ac_2 cc_2 Ac_5 cc_5 c_) isAgg25 sizeOf25) (k:=?_))))))
 obtain ⟨z2, hz3, h⟩ := bnd h
 refine vqV (caV call30) (fun w hw => nA (Γ := Gh.all w) c_ (aa.fits_mono hc_ hw.sat.le_all) (Sat.all w) hz3) (k:=sV bu (k:=WR.done ?_))
 refine ciV h (fun hb4 h => ?_) (fun hb4 h => ?_)
 ·
  refine WC.rs (aV (k:=aV (k:=WR.done ?_)))
  refine WC.ret ?_
  intro w hw
  have hw := hw.pad
  exact re_ r [2, 0] h hF hw ⟨rowd, 0, [], rfl, rfl, hd, rfl, iV, trivial⟩
 refine WC.skip (wc_ (WC.rs (mV (k:=mV (k:=?_)))))
 obtain ⟨z5, hz6, h⟩ := bnd h
 refine ecV [1] (caV call31) (fun w hp => rV hd (⟨#[103]⟩ : ByteArray) (show (⟨#[103]⟩ : ByteArray).size ≤ lim by decide) size hsize hp hz6) ?_
 rintro Γ7 _ _ hl8 ⟨row11, g13, row14, A16, c17, row18, rfl, rfl, hr12, hr15, hr19, hr20, _⟩
 refine cwV 22 [_, _, _, _] (mV (k:=sV exV (k:=sV exV (k:=sV exV (k:=aU (v := optp z5.2.1 g13) (k:=aV (k:=aV (k:=?_))))))))
 refine WR.done (WC.seq (WC.rs (mV (k:=sV bZ (k:=WR.done ?_)))))
 refine ciV h (fun hb21 h => ?_) (fun hb21 h => ?_)
 ·
  refine WC.rs (mV (k:=aV (k:=aV (k:=WR.done ?_))))
  refine WC.ret ?_
  intro w hw
  have hw := hw.pad
  exact re_ r [1, 0] h hF hw ⟨row11, 0, [], rfl, rfl, hr12, rfl, hr20, trivial⟩
 refine WC.skip (wc_ (WC.rs (sV (q_fl 2 gx) (k:=sV (ldV 3 isAgg22) (k:=?_)))))
 obtain ⟨z22, hz23, h⟩ := bnd h
 refine ecV [] (caV call32) (fun w hp => dl (hc_.2.2.1.2.mono hl8) hc_.2.2.1.1 hp hz23) ?_
 rintro Γ24 _ _ hl25 ⟨A28, c29, row30, rfl, rfl, hr31, _⟩
 refine cwV 31 [_, _, _, _, _] (sV (q_fl 2 gx) (k:=stV 4 (.slice A28 z22.length c29) #[ii c_.self, ii c_.sites, .slice A28 z22.length c29, ii c_.cap, ii c_.base, .slice Ac_5 c_.members.length cc_5] sizeOf22 (k:=WR.done (WC.seq ?_))))
 obtain ⟨z32, hz33, h⟩ := bnd h
 have ho34 := ke (uX hr15 (fun _ h => h.mono hl25)) hz33
 refine leV fun h035 => ?_
 refine eD (CC F Γ24 [row18, [(g1, .cells #[ii c_.self, ii c_.sites, .slice A28 z22.length c29, ii c_.cap, ii c_.base, .slice Ac_5 c_.members.length cc_5] 25 (0, 0))]]) (bo_ [3, 3] gR h035) fun k => ?_
 change WH _ _ _ _ (CC F Γ24 [_, _, _, _, _]) _ 9 _ _
 refine hV 0 k (q:=ldaV 1 [ii c_.self, ii c_.sites, .slice A28 z22.length c29, ii c_.cap, ii c_.base, .slice Ac_5 c_.members.length cc_5] isAgg25 sizeOf25) (k:=hV 1 k (q:=ay (v := (pq g13)) rfl (bj rfl hz33)) (k:=hV 3 k (q:=q_fl 5 r8) (k:=hV 4 k (q:=ldV 1 isAgg22) (k:=?_))))
 obtain ⟨z36, hz37, h⟩ := bnd h
 refine WH.each (l := [2, 5]) (by kernel_rfl) (by simp) ?_
 intro i hi; simp only [List.mem_cons, List.not_mem_nil, or_false] at hi
 rcases hi with rfl | rfl
 ·
  refine ⟨_, rfl, ?_⟩
  refine lq (intK underlying3) iW.v rfl rfl rfl rfl ?_
  intro g38 row39 hm40
  refine WR.nil (nxV (bo_ [4, 4] gR h035) fun k => ?_)
  refine wl_ 5 rfl ?_
  refine ecV [] (caV call32) (fun w hp => dl (hc_.2.2.2.2.2.2.mono (hl8.trans hl25)) hc_.2.2.2.2.2.1 hp hz37) ?_
  rintro Γ41 _ _ hl42 ⟨A45, c46, row47, rfl, rfl, hr48, _⟩
  refine cwV 38 [_, _, _, _, _, _, _] ?_
  refine WR.nil (nxV (bo_ [5, 5] hl42 h035) fun k => ?_)
  refine hV 6 k (q:=aZ (v := .agg #[ii c_.self, ii c_.sites, .slice A28 z22.length c29, ii c_.cap, ii c_.base, .slice Ac_5 c_.members.length cc_5, (pq g13), .slice none 0 0, .pointer none, .slice none 0 0, ii 1, .map (some g38), .slice A45 z36.length c46]) rfl (vn rfl rfl rfl rfl rfl) (fun w => by kernel_rfl)) (k:=wl_ 7 rfl ?_)
  refine bxV (v := .agg #[ii c_.self, ii c_.sites, .slice A28 z22.length c29, ii c_.cap, ii c_.base, .slice Ac_5 c_.members.length cc_5, (pq g13), .slice none 0 0, .pointer none, .slice none 0 0, ii 1, .map (some g38), .slice A45 z36.length c46]) fun gh40_ => ?_
  refine WR.nil (nxV (bo_ [6, 6] hl42 h035) fun k => ?_)
  refine hV 8 k (q:=aoV) (k:=?_)
  refine WH.done (by kernel_rfl) ?_
  change WC _ _ _ _ _ _
  refine WC.seq (WC.rs (sV (q_fl 1 iD) (k:=sV (ldV 7 isAgg3) (k:=mV (k:=WR.done (WC.block ?_))))))
  refine WC.forU h (fun (i55 : Nat) (x49 : List Int) σ w => ∃ (A50 : Option Addr), ∃ (c51 : Nat), ∃ (row52 : Rowb), slots σ [(5, (pq g1)), (9, .slice A16 z5.2.2.1.length c17), (11, (pq gh40_)), (42, ii c_.sites), (43, ii (i55 : Int))] ∧ CC F Γ41 [row52, [(gh40_, .cells #[ii c_.self, ii c_.sites, .slice A28 z22.length c29, ii c_.cap, ii c_.base, .slice Ac_5 c_.members.length cc_5, (pq g13), .slice A50 x49.length c51, .pointer none, .slice none 0 0, ii 1, .map (some g38), .slice A45 z36.length c46] 84 (0, 0))], row47, row39, row30, row11, row14, row18, [(g1, .cells #[ii c_.self, ii c_.sites, .slice A28 z22.length c29, ii c_.cap, ii c_.base, .slice Ac_5 c_.members.length cc_5] 25 (0, 0))]] w ∧ Own intT Γ41 2 row52 A50 c51 x49 ∧ True) ?_ ?_
  ·
   intro w hw
   have hw := hw.pad
   exact ⟨none, 0, [], slK, hw, (Own.nil intT _ 2), trivial⟩
  rintro f54 i55 x49 σ w hi56 hlt57 hge58 ⟨A50, c51, row52, hsl, hw, ho53, -⟩
  refine slV hsl hw [_, _, _, _, _, _, _, _, _] ?_; clear hw hsl
  refine WC.rs (sV aS (k:=WR.done (WC.seq ?_)))
  refine coV (fun hb59 => ?_) (fun hb59 => ?_)
  ·
   have hl60 := ilti hb59
   have h := hlt57 hl60
   refine WC.skip (wc_ (WC.seq (WC.block ?_)))
   refine leV fun h061 => ?_
   refine eD (CC F Γ41 [row18, [(g1, .cells #[ii c_.self, ii c_.sites, .slice A28 z22.length c29, ii c_.cap, ii c_.base, .slice Ac_5 c_.members.length cc_5] 25 (0, 0))]]) (bo_ [7, 7] gR h061) fun k => ?_
   change WH _ _ _ _ (CC F Γ41 [_, _, _, _, _, _, _, _, _]) _ 12 _ _
   refine hV 0 k (q:=moV) (k:=hV 1 k (q:=moV) (k:=hV 2 k (q:=nlV) (k:=hV 3 k (q:=q_fl 7 eR) (k:=hV 5 k (q:=q_fl 4 l7) (k:=hV 6 k (q:=ldV 1 isAgg2) (k:=?_))))))
   refine WH.each (l := [4, 7]) (by kernel_rfl) (by simp) ?_
   intro i hi; simp only [List.mem_cons, List.not_mem_nil, or_false] at hi
   rcases hi with rfl | rfl
   ·
    refine ⟨_, rfl, ?_⟩
    refine sV (ldV 1 isAgg46) (k:=?_)
    refine WR.nil (nxV (bo_ [7, 7] gR h061) fun k => ?_)
    refine wl_ 7 rfl ?_
    refine bsV #[ii c_.base] 2 fun g62 => ?_
    refine WR.nil (nxV (bo_ [8, 8] gR h061) fun k => ?_)
    refine wl_ 8 rfl ?_
    obtain ⟨hk63, h⟩ := ai h
    refine apV 1 [c_.base] mX ho53 (of_decide_eq_true hk63) (fun w hw => dR (i := 0) rfl (by exact ⟨rfl, hc_.2.2.2.2.1⟩) hw) ?_
    intro row64 A65 c66 ho67
    refine WR.nil (nxV (bo_ [8, 8] gR h061) fun k => ?_)
    refine hV 9 k (q:=nlV) (k:=hV 10 k (q:=q_fl 7 eR) (k:=wl_ 11 rfl (stV 2 (.slice A65 (x49 ++ [c_.base]).length c66) #[ii c_.self, ii c_.sites, .slice A28 z22.length c29, ii c_.cap, ii c_.base, .slice Ac_5 c_.members.length cc_5, (pq g13), .slice A65 (x49 ++ [c_.base]).length c66, .pointer none, .slice none 0 0, ii 1, .map (some g38), .slice A45 z36.length c46] sizeOf46 (k:=?_))))
    refine WR.nil (nxV (bo_ [8, 8] gR h061) fun k => ?_)
    refine WH.done (by kernel_rfl) ?_
    change WC _ _ _ _ _ _
    refine WC.region ?_
    refine sV (aC rfl rfl rfl (k5 hl60 hc_.2.1)) (k:=mV (k:=?_))
    refine WR.nil ?_
    intro w hw
    exact ⟨hl60, (x49 ++ [c_.base]), h, A65, c66, row64, slK, (hw.on [1, 1, 1, 1, 1, 1, 1, 1, 1]), ho67, trivial⟩
   refine ⟨_, rfl, ?_⟩
   refine bsV #[ii c_.base] 2 fun g62 => ?_
   refine WR.nil (nxV (bo_ [8, 8] gR h061) fun k => ?_)
   refine wl_ 4 rfl (sV (ldV 2 isAgg46) (k:=?_))
   refine WR.nil (nxV (bo_ [8, 8] gR h061) fun k => ?_)
   refine wl_ 8 rfl ?_
   obtain ⟨hk63, h⟩ := ai h
   refine apV 1 [c_.base] mX ho53 (of_decide_eq_true hk63) (fun w hw => dR (i := 0) rfl (by exact ⟨rfl, hc_.2.2.2.2.1⟩) hw) ?_
   intro row64 A65 c66 ho67
   refine WR.nil (nxV (bo_ [8, 8] gR h061) fun k => ?_)
   refine hV 9 k (q:=nlV) (k:=hV 10 k (q:=q_fl 7 eR) (k:=wl_ 11 rfl (stV 2 (.slice A65 (x49 ++ [c_.base]).length c66) #[ii c_.self, ii c_.sites, .slice A28 z22.length c29, ii c_.cap, ii c_.base, .slice Ac_5 c_.members.length cc_5, (pq g13), .slice A65 (x49 ++ [c_.base]).length c66, .pointer none, .slice none 0 0, ii 1, .map (some g38), .slice A45 z36.length c46] sizeOf46 (k:=?_))))
   refine WR.nil (nxV (bo_ [8, 8] gR h061) fun k => ?_)
   refine WH.done (by kernel_rfl) ?_
   change WC _ _ _ _ _ _
   refine WC.region ?_
   refine sV (aC rfl rfl rfl (k5 hl60 hc_.2.1)) (k:=mV (k:=?_))
   refine WR.nil ?_
   intro w hw
   exact ⟨hl60, (x49 ++ [c_.base]), h, A65, c66, row64, slK, (hw.on [1, 1, 1, 1, 1, 1, 1, 1, 1]), ho67, trivial⟩
  have h := hge58 (igei hb59)
  refine WC.exit ?_
  change WC _ _ _ _ _ _
  refine WC.seq (WC.rs (mV (k:=sV (ab rfl underlying76) (k:=mV (k:=WR.done (WC.block ?_))))))
  have hc72 := (hr31.mono hl42).capz
  refine seC 4 [_, _, _, _, _, _, _, _, _] fun Γ68 hl69 hr70 => ?_
  have hs71 := (hr31.mono hl42).sl hl69 hr70
  have hc77 := (ho53.mono hl69).capz
  refine seC 0 [_, _, _, _, _, _, _, _, _] fun Γ73 hl74 hr75 => ?_
  have hs76 := (ho53.mono hl69).sl hl74 hr75
  refine WC.mono ?_ (fun w hw => hw.pad)
  have hc82 := (hr48.mono (hl69.trans hl74)).capz
  refine seC 3 [_, _, _, _, _, _, _, _, _, _] fun Γ78 hl79 hr80 => ?_
  have hs81 := (hr48.mono (hl69.trans hl74)).sl hl79 hr80
  obtain ⟨row_83, hrow_83, hob_83⟩ : ∃ rw : Rowb, rw = ([[(gh40_, .cells #[ii c_.self, ii c_.sites, .slice A28 z22.length c29, ii c_.cap, ii c_.base, .slice Ac_5 c_.members.length cc_5, (pq g13), .slice A50 x49.length c51, .pointer none, .slice none 0 0, ii 1, .map (some g38), .slice A45 z36.length c46] 84 (0, 0))], row14, [], row39] : List Rowb).flatten ∧ a6.ob (84, gd) Γ78 gh40_ rw (⟨c_.self, c_.sites, z22, c_.cap, c_.base, c_.members, z32, x49, none, ([] : List az), 1, ([] : List (Int × Bool)), z36⟩ : a6) := ⟨_, rfl, A28, c29, Ac_5, cc_5, g13, row14, A50, c51, none, none, 0, [], g38, row39, A45, c46, rfl, hc_.1, hc_.2.1, hc72, (hs71.mono (hl74.trans hl79)), hc_.2.2.2.1, hc_.2.2.2.2.1, hc_.2.2.2.2.2.1, (hc_.2.2.2.2.2.2.mono (((((hl8.trans hl25).trans hl42).trans hl69).trans hl74).trans hl79)), (ho34.mono (((hl42.trans hl69).trans hl74).trans hl79)), hc77, (hs76.mono hl79), (Pd.nil _ _), ((LM.nil aK ba (intK underlying3) iW.v Γ73 104).mono hl79), iV, (hm40.mono (((hl42.trans hl69).trans hl74).trans hl79)), hc82, hs81, trivial⟩
  refine foC [2, 6, 0, 2] hrow_83 [_, _, _, _, _, _, _] ?_
  refine WC.forI h (fun (i90 : Nat) (o86 : a6) σ w => ∃ (Γ84 : Gh), ∃ (row87 : Rowb), slots σ [(11, (pq gh40_)), (57, .slice A16 z5.2.2.1.length c17), (58, ii (z5.2.2.1.length : Int)), (59, ii (i90 : Int))] ∧ CC F Γ84 [row87, row11, row18] w ∧ Gh.le Γ78 Γ84 ∧ a6.ob (84, gd) Γ84 gh40_ row87 o86 ∧ True) ?_ ?_
  ·
   intro w hw
   exact ⟨Γ78, row_83, slK, (hw.on [0, 3, 3]), gR, hob_83, trivial⟩
  rintro f89 i90 o86 σ w hi91 hlt92 hge93 ⟨Γ84, row87, hsl, hw, hl85, ho88, -⟩
  refine slV hsl hw [_, _, _] ?_; clear hw hsl
  refine WC.rs (sV aS (k:=WR.done (WC.seq ?_)))
  refine coV (fun hb94 => ?_) (fun hb94 => ?_)
  ·
   have hl95 := ilt hb94
   have h := hlt92 hl95
   refine WC.skip (wc_ (WC.seq (WC.block (WC.rs (sV (bb (i := i90) underlying76 sizeOf70 rfl rfl rfl hl95 ((hr19.mono (((((hl25.trans hl42).trans hl69).trans hl74).trans hl79).trans hl85)).some_ hl95)) (k:=?_))))))
   obtain ⟨A96, c97, hx98⟩ := (hr19.mono (((((hl25.trans hl42).trans hl69).trans hl74).trans hl79).trans hl85)).slT_at i90
   refine sV (qf (c := 0) (v := .slice A96 (gt z5.2.2.1 i90).length c97) (i := 2) rfl (hx98 hl95).2 rfl isAgg70 rfl rfl) (k:=aV (k:=WR.done (WC.rs (mV (k:=?_)))))
   obtain ⟨z99, hz100, h⟩ := bnd h
   refine ecV [] (caV call33) (fun w hp => gO (hx98 hl95).1.2 (hx98 hl95).1.1 hp hz100) ?_
   rintro Γ101 _ _ hl102 (⟨ho105, rfl, rfl, _⟩ | ⟨o106, ho105, A107, c108, rfl, rfl, hr109, _⟩ | ⟨o106, ho105, A110, c111, A112, c113, rfl, rfl, hr114, _⟩ | ⟨o106, ho105, rfl, rfl, hr115, _⟩ | ⟨o106, ho105, rfl, rfl, hr116, _⟩)
   ·
    have h := am.e_nil ho105 h
    refine cwV 65 [_, _, _] (mV (k:=sV exV (k:=sV exV (k:=aU (v := .nilIface) (k:=aV (k:=WR.done (WC.seq ?_)))))))
    refine WC.rs (mV (k:=sV bu (k:=mV (k:=vG0 (h:=fun hg117 => moV) (k:=vG0 (h:=fun hg118 => ay (v := .nilIface) rfl (by kernel_rfl)) (k:=?_))))))
    obtain ⟨z120, hz121, h⟩ := bnd h
    refine vC0 (h:=fun hg119 => bl (aR call34 rfl rfl (fh (grV hg119) (grV hg119))) (fun w hw => kI (Γ := Gh.all w) ((ho88.mono hl102).mono hw.sat.le_all) (hw.ra 0 rfl) (Sat.all w) (eQ hz121 hg119))) (k:=vG0 (h:=fun hg122 => bu rfl (grV hg122)) (k:=sV pkO (k:=WR.done ?_)))
    refine ciV h (fun hb123 h => ?_) (fun hb123 h => ?_)
    ·
     refine WC.rs (aV (k:=aV (k:=WR.done ?_)))
     refine WC.ret ?_
     intro w hw
     have hw := hw.pad
     exact re_ r [2, 0] h hF hw ⟨row11, 0, [], rfl, rfl, (hr12.mono ((((((hl25.trans hl42).trans hl69).trans hl74).trans hl79).trans hl85).trans hl102)), rfl, iV, trivial⟩
    refine WC.skip (wc_ ?_)
    refine WC.region ?_
    refine mV (k:=mU (v := .nilIface) (k:=?_))
    obtain ⟨z124, hz125, h⟩ := bnd h
    refine ecV [0] (caV call35) (fun w hp => cN (ho88.mono hl102) hp hz125) ?_
    rintro Γ126 _ _ hl127 ⟨rfl, rfl, _⟩
    refine cwV 78 [_, _, _] ?_
    refine WR.nil ?_
    change WC _ _ _ _ _ _
    refine WC.region ?_
    refine sV (aC rfl rfl rfl (aP hl95 (hr19.mono (((((hl25.trans hl42).trans hl69).trans hl74).trans hl79).trans hl85)).le)) (k:=mV (k:=?_))
    refine WR.nil ?_
    intro w hw
    exact ⟨hl95, o86, h, Γ126, row87, slK, hw, ((hl85.trans hl102).trans hl127), (ho88.mono (hl102.trans hl127)), trivial⟩
   ·
    have h := am.e_queue_issue ho105 h
    refine cwV 65 [_, _, _] (mV (k:=sV exV (k:=sV exV (k:=aU (v := .iface 98 (.agg (Rec.cs A107 c108 o106.r).toArray)) (k:=aV (k:=WR.done (WC.seq ?_)))))))
    refine WC.rs (mV (k:=sV bu (k:=mV (k:=vG0 (h:=fun hg130 => moV) (k:=vG0 (h:=fun hg131 => ay (v := .iface 98 (.agg (Rec.cs A107 c108 o106.r).toArray)) rfl (by kernel_rfl)) (k:=?_))))))
    obtain ⟨z133, hz134, h⟩ := bnd h
    refine vC0 (h:=fun hg132 => bl (aR call34 rfl rfl (fh (grV hg132) (grV hg132))) (fun w hw => gr (Γ := Gh.all w) ((ho88.mono hl102).mono hw.sat.le_all) (hw.ra 0 rfl) o106 (ar.fits_mono hr109 hw.sat.le_all) (Sat.all w) (eQ hz134 hg132))) (k:=vG0 (h:=fun hg135 => bu rfl (grV hg135)) (k:=sV pkO (k:=WR.done ?_)))
    refine ciV h (fun hb136 h => ?_) (fun hb136 h => ?_)
    ·
     refine WC.rs (aV (k:=aV (k:=WR.done ?_)))
     refine WC.ret ?_
     intro w hw
     have hw := hw.pad
     exact re_ r [2, 0] h hF hw ⟨row11, 0, [], rfl, rfl, (hr12.mono ((((((hl25.trans hl42).trans hl69).trans hl74).trans hl79).trans hl85).trans hl102)), rfl, iV, trivial⟩
    refine WC.skip (wc_ ?_)
    refine WC.region ?_
    refine mV (k:=mU (v := .iface 98 (.agg (Rec.cs A107 c108 o106.r).toArray)) (k:=?_))
    obtain ⟨z137, hz138, h⟩ := bnd h
    refine ecV [0] (caV call35) (fun w hp => bU (ho88.mono hl102) o106 hr109 hp hz138) ?_
    rintro Γ139 _ _ hl140 ⟨row143, rfl, rfl, hr144, _⟩
    refine cwV 78 [_, _, _] ?_
    refine WR.nil ?_
    change WC _ _ _ _ _ _
    refine WC.region ?_
    refine sV (aC rfl rfl rfl (aP hl95 (hr19.mono (((((hl25.trans hl42).trans hl69).trans hl74).trans hl79).trans hl85)).le)) (k:=mV (k:=?_))
    refine WR.nil ?_
    intro w hw
    exact ⟨hl95, z137, h, Γ139, row143, slK, hw, ((hl85.trans hl102).trans hl140), hr144, trivial⟩
   ·
    have h := am.e_queue_did ho105 h
    refine cwV 65 [_, _, _] (mV (k:=sV exV (k:=sV exV (k:=aU (v := .iface 101 (.agg (aj.cs A110 c111 A112 c113 o106).toArray)) (k:=aV (k:=WR.done (WC.seq ?_)))))))
    refine WC.rs (mV (k:=sV bu (k:=mV (k:=vG0 (h:=fun hg145 => moV) (k:=vG0 (h:=fun hg146 => ay (v := .iface 101 (.agg (aj.cs A110 c111 A112 c113 o106).toArray)) rfl (by kernel_rfl)) (k:=?_))))))
    obtain ⟨z148, hz149, h⟩ := bnd h
    refine vC0 (h:=fun hg147 => bl (aR call34 rfl rfl (fh (grV hg147) (grV hg147))) (fun w hw => gG (Γ := Gh.all w) ((ho88.mono hl102).mono hw.sat.le_all) (hw.ra 0 rfl) o106 (aj.fits_mono hr114 hw.sat.le_all) (Sat.all w) (eQ hz149 hg147))) (k:=vG0 (h:=fun hg150 => bu rfl (grV hg150)) (k:=sV pkO (k:=WR.done ?_)))
    refine ciV h (fun hb151 h => ?_) (fun hb151 h => ?_)
    ·
     refine WC.rs (aV (k:=aV (k:=WR.done ?_)))
     refine WC.ret ?_
     intro w hw
     have hw := hw.pad
     exact re_ r [2, 0] h hF hw ⟨row11, 0, [], rfl, rfl, (hr12.mono ((((((hl25.trans hl42).trans hl69).trans hl74).trans hl79).trans hl85).trans hl102)), rfl, iV, trivial⟩
    refine WC.skip (wc_ ?_)
    refine WC.region ?_
    refine mV (k:=mU (v := .iface 101 (.agg (aj.cs A110 c111 A112 c113 o106).toArray)) (k:=?_))
    obtain ⟨z152, hz153, h⟩ := bnd h
    refine ecV [0] (caV call35) (fun w hp => bN (ho88.mono hl102) o106 hr114 hp hz153) ?_
    rintro Γ154 _ _ hl155 ⟨row158, rfl, rfl, hr159, _⟩
    refine cwV 78 [_, _, _] ?_
    refine WR.nil ?_
    change WC _ _ _ _ _ _
    refine WC.region ?_
    refine sV (aC rfl rfl rfl (aP hl95 (hr19.mono (((((hl25.trans hl42).trans hl69).trans hl74).trans hl79).trans hl85)).le)) (k:=mV (k:=?_))
    refine WR.nil ?_
    intro w hw
    exact ⟨hl95, z152, h, Γ154, row158, slK, hw, ((hl85.trans hl102).trans hl155), hr159, trivial⟩
   ·
    have h := am.e_queue_ack ho105 h
    refine cwV 65 [_, _, _] (mV (k:=sV exV (k:=sV exV (k:=aU (v := .iface 107 (.agg (ak.cs o106).toArray)) (k:=aV (k:=WR.done (WC.seq ?_)))))))
    refine WC.rs (mV (k:=sV bu (k:=mV (k:=vG0 (h:=fun hg160 => moV) (k:=vG0 (h:=fun hg161 => ay (v := .iface 107 (.agg (ak.cs o106).toArray)) rfl (by kernel_rfl)) (k:=?_))))))
    obtain ⟨z163, hz164, h⟩ := bnd h
    refine vC0 (h:=fun hg162 => bl (aR call34 rfl rfl (fh (grV hg162) (grV hg162))) (fun w hw => gA (Γ := Gh.all w) ((ho88.mono hl102).mono hw.sat.le_all) (hw.ra 0 rfl) o106 hr115 (Sat.all w) (eQ hz164 hg162))) (k:=vG0 (h:=fun hg165 => bu rfl (grV hg165)) (k:=sV pkO (k:=WR.done ?_)))
    refine ciV h (fun hb166 h => ?_) (fun hb166 h => ?_)
    ·
     refine WC.rs (aV (k:=aV (k:=WR.done ?_)))
     refine WC.ret ?_
     intro w hw
     have hw := hw.pad
     exact re_ r [2, 0] h hF hw ⟨row11, 0, [], rfl, rfl, (hr12.mono ((((((hl25.trans hl42).trans hl69).trans hl74).trans hl79).trans hl85).trans hl102)), rfl, iV, trivial⟩
    refine WC.skip (wc_ ?_)
    refine WC.region ?_
    refine mV (k:=mU (v := .iface 107 (.agg (ak.cs o106).toArray)) (k:=?_))
    obtain ⟨z167, hz168, h⟩ := bnd h
    refine ecV [0] (caV call35) (fun w hp => bT (ho88.mono hl102) o106 hr115 hp hz168) ?_
    rintro Γ169 _ _ hl170 ⟨row173, rfl, rfl, hr174, _⟩
    refine cwV 78 [_, _, _] ?_
    refine WR.nil ?_
    change WC _ _ _ _ _ _
    refine WC.region ?_
    refine sV (aC rfl rfl rfl (aP hl95 (hr19.mono (((((hl25.trans hl42).trans hl69).trans hl74).trans hl79).trans hl85)).le)) (k:=mV (k:=?_))
    refine WR.nil ?_
    intro w hw
    exact ⟨hl95, z167, h, Γ169, row173, slK, hw, ((hl85.trans hl102).trans hl170), hr174, trivial⟩
   have h := am.e_queue_clear ho105 h
   refine cwV 65 [_, _, _] (mV (k:=sV exV (k:=sV exV (k:=aU (v := .iface 118 (.agg #[ii o106.sink])) (k:=aV (k:=WR.done (WC.seq ?_)))))))
   refine WC.rs (mV (k:=sV bu (k:=mV (k:=vG0 (h:=fun hg175 => moV) (k:=vG0 (h:=fun hg176 => ay (v := .iface 118 (.agg #[ii o106.sink])) rfl (by kernel_rfl)) (k:=?_))))))
   obtain ⟨z178, hz179, h⟩ := bnd h
   refine vC0 (h:=fun hg177 => bl (aR call34 rfl rfl (fh (grV hg177) (grV hg177))) (fun w hw => gz (Γ := Gh.all w) ((ho88.mono hl102).mono hw.sat.le_all) (hw.ra 0 rfl) o106 hr116 (Sat.all w) (eQ hz179 hg177))) (k:=vG0 (h:=fun hg180 => bu rfl (grV hg180)) (k:=sV pkO (k:=WR.done ?_)))
   refine ciV h (fun hb181 h => ?_) (fun hb181 h => ?_)
   ·
    refine WC.rs (aV (k:=aV (k:=WR.done ?_)))
    refine WC.ret ?_
    intro w hw
    have hw := hw.pad
    exact re_ r [2, 0] h hF hw ⟨row11, 0, [], rfl, rfl, (hr12.mono ((((((hl25.trans hl42).trans hl69).trans hl74).trans hl79).trans hl85).trans hl102)), rfl, iV, trivial⟩
   refine WC.skip (wc_ ?_)
   refine WC.region ?_
   refine mV (k:=mU (v := .iface 118 (.agg #[ii o106.sink])) (k:=?_))
   obtain ⟨z182, hz183, h⟩ := bnd h
   refine ecV [0] (caV call35) (fun w hp => bS (ho88.mono hl102) o106 hr116 hp hz183) ?_
   rintro Γ184 _ _ hl185 ⟨row188, rfl, rfl, hr189, _⟩
   refine cwV 78 [_, _, _] ?_
   refine WR.nil ?_
   change WC _ _ _ _ _ _
   refine WC.region ?_
   refine sV (aC rfl rfl rfl (aP hl95 (hr19.mono (((((hl25.trans hl42).trans hl69).trans hl74).trans hl79).trans hl85)).le)) (k:=mV (k:=?_))
   refine WR.nil ?_
   intro w hw
   exact ⟨hl95, z182, h, Γ184, row188, slK, hw, ((hl85.trans hl102).trans hl185), hr189, trivial⟩
  have h := hge93 (ige hb94)
  refine WC.exit ?_
  change WC _ _ _ _ _ _
  refine WC.rs (mV (k:=aV (k:=aV (k:=WR.done ?_))))
  exact WC.ret fun w hw => re_ r [1, 0] h hF hw ⟨row11, gh40_, row87, rfl, rfl, (hr12.mono (((((hl25.trans hl42).trans hl69).trans hl74).trans hl79).trans hl85)), ho88, iV, trivial⟩
 refine ⟨_, rfl, ?_⟩
 refine ecV [] (caV call32) (fun w hp => dl (hc_.2.2.2.2.2.2.mono (hl8.trans hl25)) hc_.2.2.2.2.2.1 hp hz37) ?_
 rintro Γ38 _ _ hl39 ⟨A42, c43, row44, rfl, rfl, hr45, _⟩
 refine cwV 38 [_, _, _, _, _, _] ?_
 refine WR.nil (nxV (bo_ [4, 4] hl39 h035) fun k => ?_)
 refine wl_ 2 rfl ?_
 refine lq (intK underlying3) iW.v rfl rfl rfl rfl ?_
 intro g46 row47 hm48
 refine WR.nil (nxV (bo_ [5, 5] hl39 h035) fun k => ?_)
 refine hV 6 k (q:=aZ (v := .agg #[ii c_.self, ii c_.sites, .slice A28 z22.length c29, ii c_.cap, ii c_.base, .slice Ac_5 c_.members.length cc_5, (pq g13), .slice none 0 0, .pointer none, .slice none 0 0, ii 1, .map (some g46), .slice A42 z36.length c43]) rfl (vn rfl rfl rfl rfl rfl) (fun w => by kernel_rfl)) (k:=wl_ 7 rfl ?_)
 refine bxV (v := .agg #[ii c_.self, ii c_.sites, .slice A28 z22.length c29, ii c_.cap, ii c_.base, .slice Ac_5 c_.members.length cc_5, (pq g13), .slice none 0 0, .pointer none, .slice none 0 0, ii 1, .map (some g46), .slice A42 z36.length c43]) fun gh40_ => ?_
 refine WR.nil (nxV (bo_ [6, 6] hl39 h035) fun k => ?_)
 refine hV 8 k (q:=aoV) (k:=?_)
 refine WH.done (by kernel_rfl) ?_
 change WC _ _ _ _ _ _
 refine WC.seq (WC.rs (sV (q_fl 1 iD) (k:=sV (ldV 7 isAgg3) (k:=mV (k:=WR.done (WC.block ?_))))))
 refine WC.forU h (fun (i55 : Nat) (x49 : List Int) σ w => ∃ (A50 : Option Addr), ∃ (c51 : Nat), ∃ (row52 : Rowb), slots σ [(5, (pq g1)), (9, .slice A16 z5.2.2.1.length c17), (11, (pq gh40_)), (42, ii c_.sites), (43, ii (i55 : Int))] ∧ CC F Γ38 [row52, [(gh40_, .cells #[ii c_.self, ii c_.sites, .slice A28 z22.length c29, ii c_.cap, ii c_.base, .slice Ac_5 c_.members.length cc_5, (pq g13), .slice A50 x49.length c51, .pointer none, .slice none 0 0, ii 1, .map (some g46), .slice A42 z36.length c43] 84 (0, 0))], row47, row44, row30, row11, row14, row18, [(g1, .cells #[ii c_.self, ii c_.sites, .slice A28 z22.length c29, ii c_.cap, ii c_.base, .slice Ac_5 c_.members.length cc_5] 25 (0, 0))]] w ∧ Own intT Γ38 2 row52 A50 c51 x49 ∧ True) ?_ ?_
 ·
  intro w hw
  have hw := hw.pad
  exact ⟨none, 0, [], slK, hw, (Own.nil intT _ 2), trivial⟩
 rintro f54 i55 x49 σ w hi56 hlt57 hge58 ⟨A50, c51, row52, hsl, hw, ho53, -⟩
 refine slV hsl hw [_, _, _, _, _, _, _, _, _] ?_; clear hw hsl
 refine WC.rs (sV aS (k:=WR.done (WC.seq ?_)))
 refine coV (fun hb59 => ?_) (fun hb59 => ?_)
 ·
  have hl60 := ilti hb59
  have h := hlt57 hl60
  refine WC.skip (wc_ (WC.seq (WC.block ?_)))
  refine leV fun h061 => ?_
  refine eD (CC F Γ38 [row18, [(g1, .cells #[ii c_.self, ii c_.sites, .slice A28 z22.length c29, ii c_.cap, ii c_.base, .slice Ac_5 c_.members.length cc_5] 25 (0, 0))]]) (bo_ [7, 7] gR h061) fun k => ?_
  change WH _ _ _ _ (CC F Γ38 [_, _, _, _, _, _, _, _, _]) _ 12 _ _
  refine hV 0 k (q:=moV) (k:=hV 1 k (q:=moV) (k:=hV 2 k (q:=nlV) (k:=hV 3 k (q:=q_fl 7 eR) (k:=hV 5 k (q:=q_fl 4 l7) (k:=hV 6 k (q:=ldV 1 isAgg2) (k:=?_))))))
  refine WH.each (l := [4, 7]) (by kernel_rfl) (by simp) ?_
  intro i hi; simp only [List.mem_cons, List.not_mem_nil, or_false] at hi
  rcases hi with rfl | rfl
  ·
   refine ⟨_, rfl, ?_⟩
   refine sV (ldV 1 isAgg46) (k:=?_)
   refine WR.nil (nxV (bo_ [7, 7] gR h061) fun k => ?_)
   refine wl_ 7 rfl ?_
   refine bsV #[ii c_.base] 2 fun g62 => ?_
   refine WR.nil (nxV (bo_ [8, 8] gR h061) fun k => ?_)
   refine wl_ 8 rfl ?_
   obtain ⟨hk63, h⟩ := ai h
   refine apV 1 [c_.base] mX ho53 (of_decide_eq_true hk63) (fun w hw => dR (i := 0) rfl (by exact ⟨rfl, hc_.2.2.2.2.1⟩) hw) ?_
   intro row64 A65 c66 ho67
   refine WR.nil (nxV (bo_ [8, 8] gR h061) fun k => ?_)
   refine hV 9 k (q:=nlV) (k:=hV 10 k (q:=q_fl 7 eR) (k:=wl_ 11 rfl (stV 2 (.slice A65 (x49 ++ [c_.base]).length c66) #[ii c_.self, ii c_.sites, .slice A28 z22.length c29, ii c_.cap, ii c_.base, .slice Ac_5 c_.members.length cc_5, (pq g13), .slice A65 (x49 ++ [c_.base]).length c66, .pointer none, .slice none 0 0, ii 1, .map (some g46), .slice A42 z36.length c43] sizeOf46 (k:=?_))))
   refine WR.nil (nxV (bo_ [8, 8] gR h061) fun k => ?_)
   refine WH.done (by kernel_rfl) ?_
   change WC _ _ _ _ _ _
   refine WC.region ?_
   refine sV (aC rfl rfl rfl (k5 hl60 hc_.2.1)) (k:=mV (k:=?_))
   refine WR.nil ?_
   intro w hw
   exact ⟨hl60, (x49 ++ [c_.base]), h, A65, c66, row64, slK, (hw.on [1, 1, 1, 1, 1, 1, 1, 1, 1]), ho67, trivial⟩
  refine ⟨_, rfl, ?_⟩
  refine bsV #[ii c_.base] 2 fun g62 => ?_
  refine WR.nil (nxV (bo_ [8, 8] gR h061) fun k => ?_)
  refine wl_ 4 rfl (sV (ldV 2 isAgg46) (k:=?_))
  refine WR.nil (nxV (bo_ [8, 8] gR h061) fun k => ?_)
  refine wl_ 8 rfl ?_
  obtain ⟨hk63, h⟩ := ai h
  refine apV 1 [c_.base] mX ho53 (of_decide_eq_true hk63) (fun w hw => dR (i := 0) rfl (by exact ⟨rfl, hc_.2.2.2.2.1⟩) hw) ?_
  intro row64 A65 c66 ho67
  refine WR.nil (nxV (bo_ [8, 8] gR h061) fun k => ?_)
  refine hV 9 k (q:=nlV) (k:=hV 10 k (q:=q_fl 7 eR) (k:=wl_ 11 rfl (stV 2 (.slice A65 (x49 ++ [c_.base]).length c66) #[ii c_.self, ii c_.sites, .slice A28 z22.length c29, ii c_.cap, ii c_.base, .slice Ac_5 c_.members.length cc_5, (pq g13), .slice A65 (x49 ++ [c_.base]).length c66, .pointer none, .slice none 0 0, ii 1, .map (some g46), .slice A42 z36.length c43] sizeOf46 (k:=?_))))
  refine WR.nil (nxV (bo_ [8, 8] gR h061) fun k => ?_)
  refine WH.done (by kernel_rfl) ?_
  change WC _ _ _ _ _ _
  refine WC.region ?_
  refine sV (aC rfl rfl rfl (k5 hl60 hc_.2.1)) (k:=mV (k:=?_))
  refine WR.nil ?_
  intro w hw
  exact ⟨hl60, (x49 ++ [c_.base]), h, A65, c66, row64, slK, (hw.on [1, 1, 1, 1, 1, 1, 1, 1, 1]), ho67, trivial⟩
 have h := hge58 (igei hb59)
 refine WC.exit ?_
 change WC _ _ _ _ _ _
 refine WC.seq (WC.rs (mV (k:=sV (ab rfl underlying76) (k:=mV (k:=WR.done (WC.block ?_))))))
 have hc72 := (hr31.mono hl39).capz
 refine seC 4 [_, _, _, _, _, _, _, _, _] fun Γ68 hl69 hr70 => ?_
 have hs71 := (hr31.mono hl39).sl hl69 hr70
 have hc77 := (ho53.mono hl69).capz
 refine seC 0 [_, _, _, _, _, _, _, _, _] fun Γ73 hl74 hr75 => ?_
 have hs76 := (ho53.mono hl69).sl hl74 hr75
 refine WC.mono ?_ (fun w hw => hw.pad)
 have hc82 := (hr45.mono (hl69.trans hl74)).capz
 refine seC 4 [_, _, _, _, _, _, _, _, _, _] fun Γ78 hl79 hr80 => ?_
 have hs81 := (hr45.mono (hl69.trans hl74)).sl hl79 hr80
 obtain ⟨row_83, hrow_83, hob_83⟩ : ∃ rw : Rowb, rw = ([[(gh40_, .cells #[ii c_.self, ii c_.sites, .slice A28 z22.length c29, ii c_.cap, ii c_.base, .slice Ac_5 c_.members.length cc_5, (pq g13), .slice A50 x49.length c51, .pointer none, .slice none 0 0, ii 1, .map (some g46), .slice A42 z36.length c43] 84 (0, 0))], row14, [], row47] : List Rowb).flatten ∧ a6.ob (84, gd) Γ78 gh40_ rw (⟨c_.self, c_.sites, z22, c_.cap, c_.base, c_.members, z32, x49, none, ([] : List az), 1, ([] : List (Int × Bool)), z36⟩ : a6) := ⟨_, rfl, A28, c29, Ac_5, cc_5, g13, row14, A50, c51, none, none, 0, [], g46, row47, A42, c43, rfl, hc_.1, hc_.2.1, hc72, (hs71.mono (hl74.trans hl79)), hc_.2.2.2.1, hc_.2.2.2.2.1, hc_.2.2.2.2.2.1, (hc_.2.2.2.2.2.2.mono (((((hl8.trans hl25).trans hl39).trans hl69).trans hl74).trans hl79)), (ho34.mono (((hl39.trans hl69).trans hl74).trans hl79)), hc77, (hs76.mono hl79), (Pd.nil _ _), ((LM.nil aK ba (intK underlying3) iW.v Γ73 104).mono hl79), iV, (hm48.mono ((hl69.trans hl74).trans hl79)), hc82, hs81, trivial⟩
 refine foC [2, 6, 0, 1] hrow_83 [_, _, _, _, _, _, _] ?_
 refine WC.forI h (fun (i90 : Nat) (o86 : a6) σ w => ∃ (Γ84 : Gh), ∃ (row87 : Rowb), slots σ [(11, (pq gh40_)), (57, .slice A16 z5.2.2.1.length c17), (58, ii (z5.2.2.1.length : Int)), (59, ii (i90 : Int))] ∧ CC F Γ84 [row87, row11, row18] w ∧ Gh.le Γ78 Γ84 ∧ a6.ob (84, gd) Γ84 gh40_ row87 o86 ∧ True) ?_ ?_
 ·
  intro w hw
  exact ⟨Γ78, row_83, slK, (hw.on [0, 3, 3]), gR, hob_83, trivial⟩
 rintro f89 i90 o86 σ w hi91 hlt92 hge93 ⟨Γ84, row87, hsl, hw, hl85, ho88, -⟩
 refine slV hsl hw [_, _, _] ?_; clear hw hsl
 refine WC.rs (sV aS (k:=WR.done (WC.seq ?_)))
 refine coV (fun hb94 => ?_) (fun hb94 => ?_)
 ·
  have hl95 := ilt hb94
  have h := hlt92 hl95
  refine WC.skip (wc_ (WC.seq (WC.block (WC.rs (sV (bb (i := i90) underlying76 sizeOf70 rfl rfl rfl hl95 ((hr19.mono (((((hl25.trans hl39).trans hl69).trans hl74).trans hl79).trans hl85)).some_ hl95)) (k:=?_))))))
  obtain ⟨A96, c97, hx98⟩ := (hr19.mono (((((hl25.trans hl39).trans hl69).trans hl74).trans hl79).trans hl85)).slT_at i90
  refine sV (qf (c := 0) (v := .slice A96 (gt z5.2.2.1 i90).length c97) (i := 2) rfl (hx98 hl95).2 rfl isAgg70 rfl rfl) (k:=aV (k:=WR.done (WC.rs (mV (k:=?_)))))
  obtain ⟨z99, hz100, h⟩ := bnd h
  refine ecV [] (caV call33) (fun w hp => gO (hx98 hl95).1.2 (hx98 hl95).1.1 hp hz100) ?_
  rintro Γ101 _ _ hl102 (⟨ho105, rfl, rfl, _⟩ | ⟨o106, ho105, A107, c108, rfl, rfl, hr109, _⟩ | ⟨o106, ho105, A110, c111, A112, c113, rfl, rfl, hr114, _⟩ | ⟨o106, ho105, rfl, rfl, hr115, _⟩ | ⟨o106, ho105, rfl, rfl, hr116, _⟩)
  ·
   have h := am.e_nil ho105 h
   refine cwV 65 [_, _, _] (mV (k:=sV exV (k:=sV exV (k:=aU (v := .nilIface) (k:=aV (k:=WR.done (WC.seq ?_)))))))
   refine WC.rs (mV (k:=sV bu (k:=mV (k:=vG0 (h:=fun hg117 => moV) (k:=vG0 (h:=fun hg118 => ay (v := .nilIface) rfl (by kernel_rfl)) (k:=?_))))))
   obtain ⟨z120, hz121, h⟩ := bnd h
   refine vC0 (h:=fun hg119 => bl (aR call34 rfl rfl (fh (grV hg119) (grV hg119))) (fun w hw => kI (Γ := Gh.all w) ((ho88.mono hl102).mono hw.sat.le_all) (hw.ra 0 rfl) (Sat.all w) (eQ hz121 hg119))) (k:=vG0 (h:=fun hg122 => bu rfl (grV hg122)) (k:=sV pkO (k:=WR.done ?_)))
   refine ciV h (fun hb123 h => ?_) (fun hb123 h => ?_)
   ·
    refine WC.rs (aV (k:=aV (k:=WR.done ?_)))
    refine WC.ret ?_
    intro w hw
    have hw := hw.pad
    exact re_ r [2, 0] h hF hw ⟨row11, 0, [], rfl, rfl, (hr12.mono ((((((hl25.trans hl39).trans hl69).trans hl74).trans hl79).trans hl85).trans hl102)), rfl, iV, trivial⟩
   refine WC.skip (wc_ ?_)
   refine WC.region ?_
   refine mV (k:=mU (v := .nilIface) (k:=?_))
   obtain ⟨z124, hz125, h⟩ := bnd h
   refine ecV [0] (caV call35) (fun w hp => cN (ho88.mono hl102) hp hz125) ?_
   rintro Γ126 _ _ hl127 ⟨rfl, rfl, _⟩
   refine cwV 78 [_, _, _] ?_
   refine WR.nil ?_
   change WC _ _ _ _ _ _
   refine WC.region ?_
   refine sV (aC rfl rfl rfl (aP hl95 (hr19.mono (((((hl25.trans hl39).trans hl69).trans hl74).trans hl79).trans hl85)).le)) (k:=mV (k:=?_))
   refine WR.nil ?_
   intro w hw
   exact ⟨hl95, o86, h, Γ126, row87, slK, hw, ((hl85.trans hl102).trans hl127), (ho88.mono (hl102.trans hl127)), trivial⟩
  ·
   have h := am.e_queue_issue ho105 h
   refine cwV 65 [_, _, _] (mV (k:=sV exV (k:=sV exV (k:=aU (v := .iface 98 (.agg (Rec.cs A107 c108 o106.r).toArray)) (k:=aV (k:=WR.done (WC.seq ?_)))))))
   refine WC.rs (mV (k:=sV bu (k:=mV (k:=vG0 (h:=fun hg130 => moV) (k:=vG0 (h:=fun hg131 => ay (v := .iface 98 (.agg (Rec.cs A107 c108 o106.r).toArray)) rfl (by kernel_rfl)) (k:=?_))))))
   obtain ⟨z133, hz134, h⟩ := bnd h
   refine vC0 (h:=fun hg132 => bl (aR call34 rfl rfl (fh (grV hg132) (grV hg132))) (fun w hw => gr (Γ := Gh.all w) ((ho88.mono hl102).mono hw.sat.le_all) (hw.ra 0 rfl) o106 (ar.fits_mono hr109 hw.sat.le_all) (Sat.all w) (eQ hz134 hg132))) (k:=vG0 (h:=fun hg135 => bu rfl (grV hg135)) (k:=sV pkO (k:=WR.done ?_)))
   refine ciV h (fun hb136 h => ?_) (fun hb136 h => ?_)
   ·
    refine WC.rs (aV (k:=aV (k:=WR.done ?_)))
    refine WC.ret ?_
    intro w hw
    have hw := hw.pad
    exact re_ r [2, 0] h hF hw ⟨row11, 0, [], rfl, rfl, (hr12.mono ((((((hl25.trans hl39).trans hl69).trans hl74).trans hl79).trans hl85).trans hl102)), rfl, iV, trivial⟩
   refine WC.skip (wc_ ?_)
   refine WC.region ?_
   refine mV (k:=mU (v := .iface 98 (.agg (Rec.cs A107 c108 o106.r).toArray)) (k:=?_))
   obtain ⟨z137, hz138, h⟩ := bnd h
   refine ecV [0] (caV call35) (fun w hp => bU (ho88.mono hl102) o106 hr109 hp hz138) ?_
   rintro Γ139 _ _ hl140 ⟨row143, rfl, rfl, hr144, _⟩
   refine cwV 78 [_, _, _] ?_
   refine WR.nil ?_
   change WC _ _ _ _ _ _
   refine WC.region ?_
   refine sV (aC rfl rfl rfl (aP hl95 (hr19.mono (((((hl25.trans hl39).trans hl69).trans hl74).trans hl79).trans hl85)).le)) (k:=mV (k:=?_))
   refine WR.nil ?_
   intro w hw
   exact ⟨hl95, z137, h, Γ139, row143, slK, hw, ((hl85.trans hl102).trans hl140), hr144, trivial⟩
  ·
   have h := am.e_queue_did ho105 h
   refine cwV 65 [_, _, _] (mV (k:=sV exV (k:=sV exV (k:=aU (v := .iface 101 (.agg (aj.cs A110 c111 A112 c113 o106).toArray)) (k:=aV (k:=WR.done (WC.seq ?_)))))))
   refine WC.rs (mV (k:=sV bu (k:=mV (k:=vG0 (h:=fun hg145 => moV) (k:=vG0 (h:=fun hg146 => ay (v := .iface 101 (.agg (aj.cs A110 c111 A112 c113 o106).toArray)) rfl (by kernel_rfl)) (k:=?_))))))
   obtain ⟨z148, hz149, h⟩ := bnd h
   refine vC0 (h:=fun hg147 => bl (aR call34 rfl rfl (fh (grV hg147) (grV hg147))) (fun w hw => gG (Γ := Gh.all w) ((ho88.mono hl102).mono hw.sat.le_all) (hw.ra 0 rfl) o106 (aj.fits_mono hr114 hw.sat.le_all) (Sat.all w) (eQ hz149 hg147))) (k:=vG0 (h:=fun hg150 => bu rfl (grV hg150)) (k:=sV pkO (k:=WR.done ?_)))
   refine ciV h (fun hb151 h => ?_) (fun hb151 h => ?_)
   ·
    refine WC.rs (aV (k:=aV (k:=WR.done ?_)))
    refine WC.ret ?_
    intro w hw
    have hw := hw.pad
    exact re_ r [2, 0] h hF hw ⟨row11, 0, [], rfl, rfl, (hr12.mono ((((((hl25.trans hl39).trans hl69).trans hl74).trans hl79).trans hl85).trans hl102)), rfl, iV, trivial⟩
   refine WC.skip (wc_ ?_)
   refine WC.region ?_
   refine mV (k:=mU (v := .iface 101 (.agg (aj.cs A110 c111 A112 c113 o106).toArray)) (k:=?_))
   obtain ⟨z152, hz153, h⟩ := bnd h
   refine ecV [0] (caV call35) (fun w hp => bN (ho88.mono hl102) o106 hr114 hp hz153) ?_
   rintro Γ154 _ _ hl155 ⟨row158, rfl, rfl, hr159, _⟩
   refine cwV 78 [_, _, _] ?_
   refine WR.nil ?_
   change WC _ _ _ _ _ _
   refine WC.region ?_
   refine sV (aC rfl rfl rfl (aP hl95 (hr19.mono (((((hl25.trans hl39).trans hl69).trans hl74).trans hl79).trans hl85)).le)) (k:=mV (k:=?_))
   refine WR.nil ?_
   intro w hw
   exact ⟨hl95, z152, h, Γ154, row158, slK, hw, ((hl85.trans hl102).trans hl155), hr159, trivial⟩
  ·
   have h := am.e_queue_ack ho105 h
   refine cwV 65 [_, _, _] (mV (k:=sV exV (k:=sV exV (k:=aU (v := .iface 107 (.agg (ak.cs o106).toArray)) (k:=aV (k:=WR.done (WC.seq ?_)))))))
   refine WC.rs (mV (k:=sV bu (k:=mV (k:=vG0 (h:=fun hg160 => moV) (k:=vG0 (h:=fun hg161 => ay (v := .iface 107 (.agg (ak.cs o106).toArray)) rfl (by kernel_rfl)) (k:=?_))))))
   obtain ⟨z163, hz164, h⟩ := bnd h
   refine vC0 (h:=fun hg162 => bl (aR call34 rfl rfl (fh (grV hg162) (grV hg162))) (fun w hw => gA (Γ := Gh.all w) ((ho88.mono hl102).mono hw.sat.le_all) (hw.ra 0 rfl) o106 hr115 (Sat.all w) (eQ hz164 hg162))) (k:=vG0 (h:=fun hg165 => bu rfl (grV hg165)) (k:=sV pkO (k:=WR.done ?_)))
   refine ciV h (fun hb166 h => ?_) (fun hb166 h => ?_)
   ·
    refine WC.rs (aV (k:=aV (k:=WR.done ?_)))
    refine WC.ret ?_
    intro w hw
    have hw := hw.pad
    exact re_ r [2, 0] h hF hw ⟨row11, 0, [], rfl, rfl, (hr12.mono ((((((hl25.trans hl39).trans hl69).trans hl74).trans hl79).trans hl85).trans hl102)), rfl, iV, trivial⟩
   refine WC.skip (wc_ ?_)
   refine WC.region ?_
   refine mV (k:=mU (v := .iface 107 (.agg (ak.cs o106).toArray)) (k:=?_))
   obtain ⟨z167, hz168, h⟩ := bnd h
   refine ecV [0] (caV call35) (fun w hp => bT (ho88.mono hl102) o106 hr115 hp hz168) ?_
   rintro Γ169 _ _ hl170 ⟨row173, rfl, rfl, hr174, _⟩
   refine cwV 78 [_, _, _] ?_
   refine WR.nil ?_
   change WC _ _ _ _ _ _
   refine WC.region ?_
   refine sV (aC rfl rfl rfl (aP hl95 (hr19.mono (((((hl25.trans hl39).trans hl69).trans hl74).trans hl79).trans hl85)).le)) (k:=mV (k:=?_))
   refine WR.nil ?_
   intro w hw
   exact ⟨hl95, z167, h, Γ169, row173, slK, hw, ((hl85.trans hl102).trans hl170), hr174, trivial⟩
  have h := am.e_queue_clear ho105 h
  refine cwV 65 [_, _, _] (mV (k:=sV exV (k:=sV exV (k:=aU (v := .iface 118 (.agg #[ii o106.sink])) (k:=aV (k:=WR.done (WC.seq ?_)))))))
  refine WC.rs (mV (k:=sV bu (k:=mV (k:=vG0 (h:=fun hg175 => moV) (k:=vG0 (h:=fun hg176 => ay (v := .iface 118 (.agg #[ii o106.sink])) rfl (by kernel_rfl)) (k:=?_))))))
  obtain ⟨z178, hz179, h⟩ := bnd h
  refine vC0 (h:=fun hg177 => bl (aR call34 rfl rfl (fh (grV hg177) (grV hg177))) (fun w hw => gz (Γ := Gh.all w) ((ho88.mono hl102).mono hw.sat.le_all) (hw.ra 0 rfl) o106 hr116 (Sat.all w) (eQ hz179 hg177))) (k:=vG0 (h:=fun hg180 => bu rfl (grV hg180)) (k:=sV pkO (k:=WR.done ?_)))
  refine ciV h (fun hb181 h => ?_) (fun hb181 h => ?_)
  ·
   refine WC.rs (aV (k:=aV (k:=WR.done ?_)))
   refine WC.ret ?_
   intro w hw
   have hw := hw.pad
   exact re_ r [2, 0] h hF hw ⟨row11, 0, [], rfl, rfl, (hr12.mono ((((((hl25.trans hl39).trans hl69).trans hl74).trans hl79).trans hl85).trans hl102)), rfl, iV, trivial⟩
  refine WC.skip (wc_ ?_)
  refine WC.region ?_
  refine mV (k:=mU (v := .iface 118 (.agg #[ii o106.sink])) (k:=?_))
  obtain ⟨z182, hz183, h⟩ := bnd h
  refine ecV [0] (caV call35) (fun w hp => bS (ho88.mono hl102) o106 hr116 hp hz183) ?_
  rintro Γ184 _ _ hl185 ⟨row188, rfl, rfl, hr189, _⟩
  refine cwV 78 [_, _, _] ?_
  refine WR.nil ?_
  change WC _ _ _ _ _ _
  refine WC.region ?_
  refine sV (aC rfl rfl rfl (aP hl95 (hr19.mono (((((hl25.trans hl39).trans hl69).trans hl74).trans hl79).trans hl85)).le)) (k:=mV (k:=?_))
  refine WR.nil ?_
  intro w hw
  exact ⟨hl95, z182, h, Γ184, row188, slK, hw, ((hl85.trans hl102).trans hl185), hr189, trivial⟩
 have h := hge93 (ige hb94)
 refine WC.exit ?_
 change WC _ _ _ _ _ _
 refine WC.rs (mV (k:=aV (k:=aV (k:=WR.done ?_))))
 exact WC.ret fun w hw => re_ r [1, 0] h hF hw ⟨row11, gh40_, row87, rfl, rfl, (hr12.mono (((((hl25.trans hl39).trans hl69).trans hl74).trans hl79).trans hl85)), ho88, iV, trivial⟩
abbrev sP (r : List UInt8) (U : List Rowb) (Γ : Gh) (v : Value) : Prop := ∃ (A0 : Option Addr), ∃ (c0 : Nat), ∃ (row0 : Rowb), v = .slice A0 r.length c0 ∧ U = [row0] ∧ Own av Γ 5 row0 A0 c0 r ∧ True
theorem iR (n : Int) (hn : I64 n) (hp : Pre [] Γ w0) {r : List UInt8} (h : ef n = some r) : Calls Tryz.prog 178 #[ii n] w0 (Outc Γ [] w0 (sP r)) := by
 refine goV [2] func178 ntmps178 results178 hp fun F hF => ?_
 refine WC.rs (aV (k:=WR.done (WC.rs (aV (k:=WR.done (WC.rs (mV (k:=?_))))))))
 refine sV qQ (k:=sV (gZ underlying285 underlying2) (k:=aV (k:=WR.done (WC.seq (WC.block ?_)))))
 refine WC.loopN h (fun (s : (List UInt8) × Int) σ w => match s with | (b_1, u_6) => ∃ (A2 : Option Addr), ∃ (c3 : Nat), ∃ (row4 : Rowb), slots σ [(3, .slice A2 b_1.length c3), (4, .int .u64 u_6)] ∧ CC F Γ [row4] w ∧ Own av Γ 5 row4 A2 c3 b_1 ∧ True) ?_ ?_
 ·
  intro w hw
  have hw := hw.pad
  exact ⟨none, 0, [], slK, hw, (Own.nil av _ 5), trivial⟩
 rintro f7 ⟨b_1, u_6⟩ σ w h ⟨A2, c3, row4, hsl, hw, ho5, -⟩
 refine slV hsl hw [_] ?_; clear hw hsl
 refine WC.seq (WC.rs (mV (k:=sV bB (k:=WR.done ?_))))
 refine ciV h (fun hb11 h => ?_) (fun hb11 h => ?_)
 ·
  refine WC.skip (wc_ (WC.seq (WC.block ?_)))
  refine WC.region ?_
  refine mV (k:=mV (k:=sV (gZ underlying5 underlying285) (k:=sV q_or (k:=?_))))
  refine bsV #[.int .u8 (ior .u8 (wu8 u_6) 128)] 5 fun g12 => ?_
  obtain ⟨hk13, h⟩ := ai h
  obtain ⟨hk14, h⟩ := ai h
  refine apV 1 [(b8 (ior .u8 (wu8 u_6) 128))] gT ho5 (of_decide_eq_true hk14) (fun w hw => dR (i := 0) rfl (by exact (by show [Value.int .u8 (ior .u8 (wu8 u_6) 128)] = [Value.int .u8 _]; rw [nB (B1 hk13)])) hw) ?_
  intro row15 A16 c17 ho18
  refine aV (k:=?_)
  refine WR.nil ?_
  change WC _ _ _ _ _ _
  refine WC.region ?_
  refine mV (k:=sV (wo rfl rfl rfl (by decide)) (k:=aV (k:=?_)))
  refine WR.nil ?_
  intro w hw
  exact ⟨((b_1 ++ [(b8 (ior .u8 (wu8 u_6) 128))]), (ishr .u64 u_6 7)), h, A16, c17, row15, slK, (hw.on [1]), ho18, trivial⟩
 refine WC.exit ?_
 change WC _ _ _ _ _ _
 refine WC.rs (mV (k:=mV (k:=sV (gZ underlying5 underlying285) (k:=?_))))
 refine bsV #[.int .u8 (wu8 u_6)] 5 fun g19 => ?_
 obtain ⟨hk20, h⟩ := ai h
 refine apV 1 [(b8 (wu8 u_6))] gT ho5 (of_decide_eq_true hk20) (fun w hw => dR (i := 0) rfl (by exact (by show [Value.int .u8 (wu8 u_6)] = [Value.int .u8 _]; rw [nB (yU _)])) hw) ?_
 intro row21 A22 c23 ho24
 refine aV (k:=WR.done ?_)
 exact WC.ret fun w hw => re_ r [1] h hF hw ⟨A22, c23, row21, rfl, rfl, ho24, trivial⟩
abbrev tt (r : List UInt8) (U : List Rowb) (Γ : Gh) (v : Value) : Prop := ∃ (A0 : Option Addr), ∃ (c0 : Nat), ∃ (row0 : Rowb), v = .slice A0 r.length c0 ∧ U = [row0] ∧ Own av Γ 5 row0 A0 c0 r ∧ True
theorem gL {Ab : Option Addr} {cb : Nat} {rowb : Rowb} {b : List UInt8} (hb : Own av Γ 5 rowb Ab cb b) {Al : Option Addr} {cl : Nat} {l : List Int} (hl : Sl intT Γ Al l) (hlc : l.length ≤ cl) (hp : Pre [rowb] Γ w0) {r : List UInt8} (h : eb b l = some r) : Calls Tryz.prog 146 #[.slice Ab b.length cb, .slice Al l.length cl] w0 (Outc Γ [rowb] w0 (tt r)) := by
 refine goV [4] func146 ntmps146 results146 hp fun F hF => ?_
 refine WC.rs (aV (k:=WR.done (WC.seq (WC.rs (mV (k:=sV (ab rfl underlying46) (k:=mV (k:=?_))))))))
 refine WR.done (WC.block ?_)
 refine WC.forI h (fun (i9 : Nat) (b_3 : List UInt8) σ w => ∃ (Γ1 : Gh), ∃ (A4 : Option Addr), ∃ (c5 : Nat), ∃ (row6 : Rowb), slots σ [(0, .slice A4 b_3.length c5), (7, .slice Al l.length cl), (8, ii (l.length : Int)), (9, ii (i9 : Int))] ∧ CC F Γ1 [row6] w ∧ Gh.le Γ Γ1 ∧ Own av Γ1 5 row6 A4 c5 b_3 ∧ True) ?_ ?_
 ·
  intro w hw
  exact ⟨Γ, Ab, cb, rowb, slK, hw, gR, hb, trivial⟩
 rintro f8 i9 b_3 σ w hi10 hlt11 hge12 ⟨Γ1, A4, c5, row6, hsl, hw, hl2, ho7, -⟩
 refine slV hsl hw [_] ?_; clear hw hsl
 refine WC.rs (sV aS (k:=WR.done (WC.seq ?_)))
 refine coV (fun hb13 => ?_) (fun hb13 => ?_)
 ·
  have hl14 := ilt hb13
  have h := hlt11 hl14
  refine WC.skip (wc_ (WC.seq (WC.block (WC.rs (sV (bb (i := i9) underlying46 sizeOf2 rfl rfl rfl hl14 ((hl.mono hl2).some_ hl14)) (k:=sV (q_ld (c := 0) (v := ii (gt l i9)) ((hl.mono hl2).intT_at hl14).2 rfl isAgg2 rfl rfl) (k:=aV (k:=?_))))))))
  refine WR.done ?_
  refine WC.region ?_
  refine mV (k:=mV (k:=?_))
  obtain ⟨z15, hz16, h⟩ := bnd h
  refine ecV [] (caV call178) (fun w hp => iR (gt l i9) ((hl.mono hl2).intT_at hl14).1 hp hz16) ?_
  rintro Γ17 _ _ hl18 ⟨A21, c22, row23, rfl, rfl, hr24, _⟩
  refine cwV 15 [_, _] ?_
  obtain ⟨hk25, h⟩ := ai h
  refine apV 1 z15 gT (ho7.mono hl18) (of_decide_eq_true hk25) (fun w hw => lA (i := 0) rfl hr24 hw) ?_
  intro row26 A27 c28 ho29
  refine aV (k:=?_)
  refine WR.nil ?_
  change WC _ _ _ _ _ _
  refine WC.region ?_
  refine sV (aC rfl rfl rfl (aP hl14 (hl.mono hl2).le)) (k:=mV (k:=?_))
  refine WR.nil ?_
  intro w hw
  exact ⟨hl14, (b_3 ++ z15), h, Γ17, A27, c28, row26, slK, (hw.on [1]), (hl2.trans hl18), ho29, trivial⟩
 have h := hge12 (ige hb13)
 refine WC.exit ?_
 change WC _ _ _ _ _ _
 refine WC.rs (mV (k:=aV (k:=WR.done ?_)))
 exact WC.ret fun w hw => re_ r [0] h hF hw ⟨A4, c5, row6, rfl, rfl, ho7, trivial⟩
abbrev rR (r : List UInt8) (U : List Rowb) (Γ : Gh) (v : Value) : Prop := ∃ (A0 : Option Addr), ∃ (c0 : Nat), ∃ (row0 : Rowb), v = .slice A0 r.length c0 ∧ U = [row0] ∧ Own av Γ 5 row0 A0 c0 r ∧ True
theorem nh (s_ : ByteArray) (hs_ : s_.size ≤ lim) (hp : Pre [] Γ w0) {r : List UInt8} (h : kS s_ = some r) : Calls Tryz.prog 240 #[.string s_] w0 (Outc Γ [] w0 (rR r)) := by
 refine goV [2] func240 ntmps240 results240 hp fun F hF => ?_
 refine WC.rs (aV (k:=WR.done (WC.rs (mV (k:=sV (cJ rfl underlying9) (k:=?_))))))
 obtain ⟨z1, hz2, h⟩ := bnd h
 refine ecV [] (caV call178) (fun w hp => iR (s_.size : Int) (lX hs_) hp hz2) ?_
 rintro Γ3 _ _ hl4 ⟨A7, c8, row9, rfl, rfl, hr10, _⟩
 refine cwV 5 [_] (mV (k:=?_))
 obtain ⟨hk11, h⟩ := ai h
 refine ta (xs := z1) (s := s_) (ti := t5) underlying70 underlying9 (by kernel_rfl) (by kernel_rfl) (by kernel_rfl) (by kernel_rfl) (i := 0) rfl rfl rfl rfl rfl rfl rfl hr10 (of_decide_eq_true hk11) ?_
 intro row12 A13 c14 ho15
 refine aV (k:=WR.done ?_)
 exact WC.ret fun w hw => re_ r [0] h hF hw ⟨A13, c14, row12, rfl, rfl, ho15, trivial⟩
abbrev nz (gw_ : Nat) (ew_ : Nat) (r : ae) (U : List Rowb) (Γ : Gh) (v : Value) : Prop := ∃ (roww_' : Rowb), v = .tuple #[] ∧ U = [roww_'] ∧ ae.ob ew_ Γ gw_ roww_' r ∧ True
theorem kg {gw_ ew_ : Nat} {roww_ : Rowb} {w_ : ae} (hw_ : ae.ob ew_ Γ gw_ roww_ w_) (s_ : ByteArray) (hs_ : s_.size ≤ lim) (hp : Pre [roww_] Γ w0) {r : ae} (h : dF w_ s_ = some r) : Calls Tryz.prog 200 #[(pq gw_), .string s_] w0 (Outc Γ [roww_] w0 (nz gw_ ew_ r)) := by
 refine goV [] func200 ntmps200 results200 hp fun F hF => ?_
 refine leV fun h01 => ?_
 refine eD (CC F Γ []) (bo_ [] gR h01) fun k => ?_
 change WH _ _ _ _ (CC F Γ [_]) _ 11 _ _
 refine hV 0 k (q:=moV) (k:=hV 1 k (q:=moV) (k:=hV 2 k (q:=nlV) (k:=hV 3 k (q:=q_fl 0 jb) (k:=hV 5 k (q:=moV) (k:=?_)))))
 obtain ⟨z2, hz3, h⟩ := bnd h
 refine WH.each (l := [4, 6]) (by kernel_rfl) (by simp) ?_
 intro i hi; simp only [List.mem_cons, List.not_mem_nil, or_false] at hi
 rcases hi with rfl | rfl
 ·
  refine ⟨_, rfl, ?_⟩
  obtain ⟨A0_4, c0_4, r0_4, hrow_4, ho0_4, -⟩ := id hw_
  refine ufR 0 hrow_4 [_, _] ?_
  refine sV (ldV 0 isAgg70) (k:=?_)
  refine WR.nil (nxV (bo_ [] gR h01) fun k => ?_)
  refine wl_ 6 rfl ?_
  refine ecV [] (caV call240) (fun w hp => nh s_ hs_ hp hz3) ?_
  rintro Γ5 _ _ hl6 ⟨A9, c10, row11, rfl, rfl, hr12, _⟩
  refine cwV 10 [_, _, _] ?_
  refine WR.nil (nxV (bo_ [] hl6 h01) fun k => ?_)
  refine wl_ 7 rfl ?_
  obtain ⟨hk13, h⟩ := ai h
  refine apV 2 z2 gT (ho0_4.mono hl6) (of_decide_eq_true hk13) (fun w hw => lA (i := 0) rfl hr12 hw) ?_
  intro row14 A15 c16 ho17
  refine WR.nil (nxV (bo_ [] hl6 h01) fun k => ?_)
  refine hV 8 k (q:=nlV) (k:=hV 9 k (q:=q_fl 0 jb) (k:=wl_ 10 rfl (stV 1 (.slice A15 (w_.b ++ z2).length c16) #[.slice A15 (w_.b ++ z2).length c16] sizeOf70 (k:=?_))))
  refine WR.nil (nxV (bo_ [] hl6 h01) fun k => ?_)
  refine WH.done (by kernel_rfl) ?_
  intro w hw
  obtain ⟨row_18, hrow_18, hob_18⟩ : ∃ rw : Rowb, rw = ([[(gw_, .cells #[.slice A15 (w_.b ++ z2).length c16] ew_ (0, 0))], row14] : List Rowb).flatten ∧ ae.ob ew_ Γ5 gw_ rw (⟨(w_.b ++ z2)⟩ : ae) := ⟨_, rfl, A15, c16, row14, rfl, ho17, trivial⟩
  have hw := hw.fold (is := [1, 1]) rfl hrow_18
  obtain rfl := Option.some.inj h
  subst hF
  exact aO (is := [0]) (by kernel_rfl) hw rfl ⟨row_18, rfl, rfl, hob_18, trivial⟩
 refine ⟨_, rfl, ?_⟩
 refine ecV [] (caV call240) (fun w hp => nh s_ hs_ hp hz3) ?_
 rintro Γ4 _ _ hl5 ⟨A8, c9, row10, rfl, rfl, hr11, _⟩
 refine cwV 10 [_, _] ?_
 refine WR.nil (nxV (bo_ [] hl5 h01) fun k => ?_)
 refine wl_ 4 rfl ?_
 obtain ⟨A0_12, c0_12, r0_12, hrow_12, ho0_12, -⟩ := (hw_.mono hl5)
 refine ufR 1 hrow_12 [_, _, _] ?_
 refine sV (ldV 0 isAgg70) (k:=?_)
 refine WR.nil (nxV (bo_ [] hl5 h01) fun k => ?_)
 refine wl_ 7 rfl ?_
 obtain ⟨hk13, h⟩ := ai h
 refine apV 1 z2 gT ho0_12 (of_decide_eq_true hk13) (fun w hw => lA (i := 2) rfl hr11 hw) ?_
 intro row14 A15 c16 ho17
 refine WR.nil (nxV (bo_ [] hl5 h01) fun k => ?_)
 refine hV 8 k (q:=nlV) (k:=hV 9 k (q:=q_fl 0 jb) (k:=wl_ 10 rfl (stV 0 (.slice A15 (w_.b ++ z2).length c16) #[.slice A15 (w_.b ++ z2).length c16] sizeOf70 (k:=?_))))
 refine WR.nil (nxV (bo_ [] hl5 h01) fun k => ?_)
 refine WH.done (by kernel_rfl) ?_
 intro w hw
 obtain ⟨row_18, hrow_18, hob_18⟩ : ∃ rw : Rowb, rw = ([[(gw_, .cells #[.slice A15 (w_.b ++ z2).length c16] ew_ (0, 0))], row14] : List Rowb).flatten ∧ ae.ob ew_ Γ4 gw_ rw (⟨(w_.b ++ z2)⟩ : ae) := ⟨_, rfl, A15, c16, row14, rfl, ho17, trivial⟩
 have hw := hw.fold (is := [0, 0]) rfl hrow_18
 obtain rfl := Option.some.inj h
 subst hF
 exact aO (is := [0]) (by kernel_rfl) hw rfl ⟨row_18, rfl, rfl, hob_18, trivial⟩
abbrev nY (gw_ : Nat) (ew_ : Nat) (r : ae) (U : List Rowb) (Γ : Gh) (v : Value) : Prop := ∃ (roww_' : Rowb), v = .tuple #[] ∧ U = [roww_'] ∧ ae.ob ew_ Γ gw_ roww_' r ∧ True
theorem gj {gw_ ew_ : Nat} {roww_ : Rowb} {w_ : ae} (hw_ : ae.ob ew_ Γ gw_ roww_ w_) (n : Int) (hn : I64 n) (hp : Pre [roww_] Γ w0) {r : ae} (h : cx w_ n = some r) : Calls Tryz.prog 242 #[(pq gw_), ii n] w0 (Outc Γ [roww_] w0 (nY gw_ ew_ r)) := by
 refine goV [] func242 ntmps242 results242 hp fun F hF => ?_
 refine leV fun h01 => ?_
 refine eD (CC F Γ []) (bo_ [] gR h01) fun k => ?_
 change WH _ _ _ _ (CC F Γ [_]) _ 11 _ _
 refine hV 0 k (q:=moV) (k:=hV 1 k (q:=moV) (k:=hV 2 k (q:=nlV) (k:=hV 3 k (q:=q_fl 0 jb) (k:=hV 5 k (q:=moV) (k:=?_)))))
 obtain ⟨z2, hz3, h⟩ := bnd h
 refine WH.each (l := [4, 6]) (by kernel_rfl) (by simp) ?_
 intro i hi; simp only [List.mem_cons, List.not_mem_nil, or_false] at hi
 rcases hi with rfl | rfl
 ·
  refine ⟨_, rfl, ?_⟩
  obtain ⟨A0_4, c0_4, r0_4, hrow_4, ho0_4, -⟩ := id hw_
  refine ufR 0 hrow_4 [_, _] ?_
  refine sV (ldV 0 isAgg70) (k:=?_)
  refine WR.nil (nxV (bo_ [] gR h01) fun k => ?_)
  refine wl_ 6 rfl ?_
  refine ecV [] (caV call178) (fun w hp => iR n hn hp hz3) ?_
  rintro Γ5 _ _ hl6 ⟨A9, c10, row11, rfl, rfl, hr12, _⟩
  refine cwV 10 [_, _, _] ?_
  refine WR.nil (nxV (bo_ [] hl6 h01) fun k => ?_)
  refine wl_ 7 rfl ?_
  obtain ⟨hk13, h⟩ := ai h
  refine apV 2 z2 gT (ho0_4.mono hl6) (of_decide_eq_true hk13) (fun w hw => lA (i := 0) rfl hr12 hw) ?_
  intro row14 A15 c16 ho17
  refine WR.nil (nxV (bo_ [] hl6 h01) fun k => ?_)
  refine hV 8 k (q:=nlV) (k:=hV 9 k (q:=q_fl 0 jb) (k:=wl_ 10 rfl (stV 1 (.slice A15 (w_.b ++ z2).length c16) #[.slice A15 (w_.b ++ z2).length c16] sizeOf70 (k:=?_))))
  refine WR.nil (nxV (bo_ [] hl6 h01) fun k => ?_)
  refine WH.done (by kernel_rfl) ?_
  intro w hw
  obtain ⟨row_18, hrow_18, hob_18⟩ : ∃ rw : Rowb, rw = ([[(gw_, .cells #[.slice A15 (w_.b ++ z2).length c16] ew_ (0, 0))], row14] : List Rowb).flatten ∧ ae.ob ew_ Γ5 gw_ rw (⟨(w_.b ++ z2)⟩ : ae) := ⟨_, rfl, A15, c16, row14, rfl, ho17, trivial⟩
  have hw := hw.fold (is := [1, 1]) rfl hrow_18
  obtain rfl := Option.some.inj h
  subst hF
  exact aO (is := [0]) (by kernel_rfl) hw rfl ⟨row_18, rfl, rfl, hob_18, trivial⟩
 refine ⟨_, rfl, ?_⟩
 refine ecV [] (caV call178) (fun w hp => iR n hn hp hz3) ?_
 rintro Γ4 _ _ hl5 ⟨A8, c9, row10, rfl, rfl, hr11, _⟩
 refine cwV 10 [_, _] ?_
 refine WR.nil (nxV (bo_ [] hl5 h01) fun k => ?_)
 refine wl_ 4 rfl ?_
 obtain ⟨A0_12, c0_12, r0_12, hrow_12, ho0_12, -⟩ := (hw_.mono hl5)
 refine ufR 1 hrow_12 [_, _, _] ?_
 refine sV (ldV 0 isAgg70) (k:=?_)
 refine WR.nil (nxV (bo_ [] hl5 h01) fun k => ?_)
 refine wl_ 7 rfl ?_
 obtain ⟨hk13, h⟩ := ai h
 refine apV 1 z2 gT ho0_12 (of_decide_eq_true hk13) (fun w hw => lA (i := 2) rfl hr11 hw) ?_
 intro row14 A15 c16 ho17
 refine WR.nil (nxV (bo_ [] hl5 h01) fun k => ?_)
 refine hV 8 k (q:=nlV) (k:=hV 9 k (q:=q_fl 0 jb) (k:=wl_ 10 rfl (stV 0 (.slice A15 (w_.b ++ z2).length c16) #[.slice A15 (w_.b ++ z2).length c16] sizeOf70 (k:=?_))))
 refine WR.nil (nxV (bo_ [] hl5 h01) fun k => ?_)
 refine WH.done (by kernel_rfl) ?_
 intro w hw
 obtain ⟨row_18, hrow_18, hob_18⟩ : ∃ rw : Rowb, rw = ([[(gw_, .cells #[.slice A15 (w_.b ++ z2).length c16] ew_ (0, 0))], row14] : List Rowb).flatten ∧ ae.ob ew_ Γ4 gw_ rw (⟨(w_.b ++ z2)⟩ : ae) := ⟨_, rfl, A15, c16, row14, rfl, ho17, trivial⟩
 have hw := hw.fold (is := [0, 0]) rfl hrow_18
 obtain rfl := Option.some.inj h
 subst hF
 exact aO (is := [0]) (by kernel_rfl) hw rfl ⟨row_18, rfl, rfl, hob_18, trivial⟩
abbrev oE (gw_ : Nat) (ew_ : Nat) (r : ae) (U : List Rowb) (Γ : Gh) (v : Value) : Prop := ∃ (roww_' : Rowb), v = .tuple #[] ∧ U = [roww_'] ∧ ae.ob ew_ Γ gw_ roww_' r ∧ True
theorem d9 {gw_ ew_ : Nat} {roww_ : Rowb} {w_ : ae} (hw_ : ae.ob ew_ Γ gw_ roww_ w_) (n : Int) (hn : I64 n) (hp : Pre [roww_] Γ w0) {r : ae} (h : bH w_ n = some r) : Calls Tryz.prog 241 #[(pq gw_), ii n] w0 (Outc Γ [roww_] w0 (oE gw_ ew_ r)) := by
 refine goV [] func241 ntmps241 results241 hp fun F hF => ?_
 refine WC.region ?_
 refine mV (k:=mV (k:=?_))
 obtain ⟨z1, hz2, h⟩ := bnd h
 refine ecV [0] (caV call242) (fun w hp => gj hw_ n hn hp hz2) ?_
 rintro Γ3 _ _ hl4 ⟨row7, rfl, rfl, hr8, _⟩
 refine cwV 6 [_] ?_
 refine WR.nil ?_
 intro w hw
 obtain rfl := Option.some.inj h
 subst hF
 exact aO (is := [0]) (by kernel_rfl) hw rfl ⟨row7, rfl, rfl, hr8, trivial⟩
abbrev nS (gw_ : Nat) (ew_ : Nat) (r : ae) (U : List Rowb) (Γ : Gh) (v : Value) : Prop := ∃ (roww_' : Rowb), v = .tuple #[] ∧ U = [roww_'] ∧ ae.ob ew_ Γ gw_ roww_' r ∧ True
theorem ns {gw_ ew_ : Nat} {roww_ : Rowb} {w_ : ae} (hw_ : ae.ob ew_ Γ gw_ roww_ w_) (x_ : Span) (hx_ : Span.fits Γ  x_) (hp : Pre [roww_] Γ w0) {r : ae} (h : dC w_ x_ = some r) : Calls Tryz.prog 244 #[(pq gw_), .agg (Span.cs x_).toArray] w0 (Outc Γ [roww_] w0 (nS gw_ ew_ r)) := by
 refine goV [] func244 ntmps244 results244 hp fun F hF => ?_
 refine WC.rs ?_
 refine bxV (v := .agg (Span.cs x_).toArray) fun g1 => ?_
 refine WR.done (WC.rs (mV (k:=sV (q_fl 0 fL) (k:=sV (ldV 0 isAgg3) (k:=?_)))))
 obtain ⟨z2, hz3, h⟩ := bnd h
 refine ecV [1] (caV call241) (fun w hp => d9 hw_ x_.s hx_.1 hp hz3) ?_
 rintro Γ4 _ _ hl5 ⟨row8, rfl, rfl, hr9, _⟩
 refine cwV 7 [_, _] (WR.done (WC.rs (mV (k:=sV (q_fl 1 gP) (k:=sV (ldV 1 isAgg2) (k:=?_))))))
 obtain ⟨z10, hz11, h⟩ := bnd h
 refine ecV [0] (caV call242) (fun w hp => gj hr9 x_.f hx_.2.1 hp hz11) ?_
 rintro Γ12 _ _ hl13 ⟨row16, rfl, rfl, hr17, _⟩
 refine cwV 11 [_, _] (WR.done ?_)
 refine WC.region ?_
 refine mV (k:=sV (q_fl 2 fK) (k:=sV (ldV 1 isAgg2) (k:=sV (q_fl 1 gP) (k:=sV (ldV 1 isAgg2) (k:=sV hQ (k:=?_))))))
 obtain ⟨z18, hz19, h⟩ := bnd h
 refine ecV [0] (caV call242) (fun w hp => gj hr17 (w64 (x_.t - x_.f)) (iA _) hp hz19) ?_
 rintro Γ20 _ _ hl21 ⟨row24, rfl, rfl, hr25, _⟩
 refine cwV 18 [_, _] ?_
 refine WR.nil ?_
 intro w hw
 obtain rfl := Option.some.inj h
 subst hF
 exact aO (is := [0]) (by kernel_rfl) hw rfl ⟨row24, rfl, rfl, hr25, trivial⟩
abbrev nc (gw_ : Nat) (ew_ : Nat) (r : ae) (U : List Rowb) (Γ : Gh) (v : Value) : Prop := ∃ (roww_' : Rowb), v = .tuple #[] ∧ U = [roww_'] ∧ ae.ob ew_ Γ gw_ roww_' r ∧ True
theorem mY {gw_ ew_ : Nat} {roww_ : Rowb} {w_ : ae} (hw_ : ae.ob ew_ Γ gw_ roww_ w_) {Al : Option Addr} {cl : Nat} {l : List Span} (hl : Sl iU Γ Al l) (hlc : l.length ≤ cl) (hp : Pre [roww_] Γ w0) {r : ae} (h : eG w_ l = some r) : Calls Tryz.prog 243 #[(pq gw_), .slice Al l.length cl, .func (.func 244) #[(pq gw_)] #[]] w0 (Outc Γ [roww_] w0 (nc gw_ ew_ r)) := by
 refine goV [] func243 ntmps243 results243 hp fun F hF => ?_
 refine WC.rs (mV (k:=mV (k:=sV (ab rfl underlying33) (k:=?_))))
 obtain ⟨z1, hz2, h⟩ := bnd h
 refine ecV [0] (caV call241) (fun w hp => d9 hw_ (l.length : Int) (lX hl.le) hp hz2) ?_
 rintro Γ3 _ _ hl4 ⟨row7, rfl, rfl, hr8, _⟩
 refine cwV 11 [_] (WR.done (WC.rs (mV (k:=sV (ab rfl underlying33) (k:=mV (k:=WR.done (WC.block ?_)))))))
 refine WC.forI h (fun (i15 : Nat) (o11 : ae) σ w => ∃ (Γ9 : Gh), ∃ (row12 : Rowb), slots σ [(2, .func (.func 244) #[(pq gw_)] #[]), (12, .slice Al l.length cl), (13, ii (l.length : Int)), (14, ii (i15 : Int))] ∧ CC F Γ9 [row12] w ∧ Gh.le Γ3 Γ9 ∧ ae.ob ew_ Γ9 gw_ row12 o11 ∧ True) ?_ ?_
 ·
  intro w hw
  exact ⟨Γ3, row7, slK, hw, gR, hr8, trivial⟩
 rintro f14 i15 o11 σ w hi16 hlt17 hge18 ⟨Γ9, row12, hsl, hw, hl10, ho13, -⟩
 refine slV hsl hw [_] ?_; clear hw hsl
 refine WC.rs (sV aS (k:=WR.done (WC.seq ?_)))
 refine coV (fun hb19 => ?_) (fun hb19 => ?_)
 ·
  have hl20 := ilt hb19
  have h := hlt17 hl20
  refine WC.skip (wc_ (WC.seq (WC.block (WC.rs (sV (bb (i := i15) underlying33 sizeOf277 rfl rfl rfl hl20 ((hl.mono (hl4.trans hl10)).some_ hl20)) (k:=sV (gY (c := 0) (vs := (Span.cs (gt l i15))) ((hl.mono (hl4.trans hl10)).spanT_at hl20).2 rfl isAgg277 sizeOf277 rfl rfl rfl) (k:=?_)))))))
  refine alV zeroValue277 fun g21 => ?_
  refine stV 0 (.agg (Span.cs (gt l i15)).toArray) (Span.cs (gt l i15)).toArray sizeOf277 (k:=WR.done ?_)
  refine WC.region ?_
  refine mU (v := .func (.func 244) #[(pq gw_)] #[]) (k:=sV (ldaV 0 (Span.cs (gt l i15)) isAgg277 sizeOf277) (k:=?_))
  obtain ⟨z22, hz23, h⟩ := bnd h
  refine ecV [1] (iy (first := #[(pq gw_)]) call244 rfl (by kernel_rfl) (by kernel_rfl)) (fun w hp => ns ho13 (gt l i15) ((hl.mono (hl4.trans hl10)).spanT_at hl20).1 hp hz23) ?_
  rintro Γ24 _ _ hl25 ⟨row28, rfl, rfl, hr29, _⟩
  refine cwV 20 [_, _] ?_
  refine WR.nil ?_
  change WC _ _ _ _ _ _
  refine WC.region ?_
  refine sV (aC rfl rfl rfl (aP hl20 (hl.mono (hl4.trans hl10)).le)) (k:=mV (k:=?_))
  refine WR.nil ?_
  intro w hw
  exact ⟨hl20, z22, h, Γ24, row28, slK, (hw.on [0]), (hl10.trans hl25), hr29, trivial⟩
 have h := hge18 (ige hb19)
 refine WC.exit ?_
 intro w hw
 obtain rfl := Option.some.inj h
 subst hF
 exact aO (is := [0]) (by kernel_rfl) hw rfl ⟨row12, rfl, rfl, ho13, trivial⟩
abbrev oP (gw_ : Nat) (ew_ : Nat) (r : ae) (U : List Rowb) (Γ : Gh) (v : Value) : Prop := ∃ (roww_' : Rowb), v = .tuple #[] ∧ U = [roww_'] ∧ ae.ob ew_ Γ gw_ roww_' r ∧ True
theorem oy {gw_ ew_ : Nat} {roww_ : Rowb} {w_ : ae} (hw_ : ae.ob ew_ Γ gw_ roww_ w_) {Av_2 : Option Addr} {cv_2 : Nat} (v_ : Ver) (hv_ : Ver.fits Γ Av_2 cv_2 v_) (hp : Pre [roww_] Γ w0) {r : ae} (h : e8 w_ v_ = some r) : Calls Tryz.prog 202 #[(pq gw_), .agg (Ver.cs Av_2 cv_2 v_).toArray] w0 (Outc Γ [roww_] w0 (oP gw_ ew_ r)) := by
 refine goV [] func202 ntmps202 results202 hp fun F hF => ?_
 refine WC.rs ?_
 refine bxV (v := .agg (Ver.cs Av_2 cv_2 v_).toArray) fun g1 => ?_
 refine WR.done (WC.rs (mV (k:=sV (q_fl 0 cg) (k:=sV (q_fl 0 cP) (k:=sV (ldV 0 isAgg3) (k:=?_))))))
 obtain ⟨z2, hz3, h⟩ := bnd h
 refine ecV [1] (caV call241) (fun w hp => d9 hw_ v_.dot.s hv_.1 hp hz3) ?_
 rintro Γ4 _ _ hl5 ⟨row8, rfl, rfl, hr9, _⟩
 refine cwV 8 [_, _] (WR.done (WC.rs (mV (k:=sV (q_fl 0 cg) (k:=sV (q_fl 1 fD) (k:=sV (ldV 1 isAgg2) (k:=?_)))))))
 obtain ⟨z10, hz11, h⟩ := bnd h
 refine ecV [0] (caV call242) (fun w hp => gj hr9 v_.dot.n hv_.2.1 hp hz11) ?_
 rintro Γ12 _ _ hl13 ⟨row16, rfl, rfl, hr17, _⟩
 refine cwV 13 [_, _] (WR.done (WC.rs (mV (k:=sV (q_fl 2 fF) (k:=sV (ldV 1 isAgg33) (k:=mV (k:=sV (jP (v := .func (.func 244) #[(pq gw_)] #[]) rfl (by kernel_rfl)) (k:=?_))))))))
 obtain ⟨z18, hz19, h⟩ := bnd h
 refine ecV [0] (caV call243) (fun w hp => mY hr17 (hv_.2.2.1.2.mono (hl5.trans hl13)) hv_.2.2.1.1 hp hz19) ?_
 rintro Γ20 _ _ hl21 ⟨row24, rfl, rfl, hr25, _⟩
 refine cwV 19 [_, _] (WR.done (WC.seq (WC.rs (sV (q_fl 3 mI) (k:=sV (ldV 1 isAgg4) (k:=WR.done ?_))))))
 refine ciV h (fun hb26 h => ?_) (fun hb26 h => ?_)
 ·
  refine WC.rs (mV (k:=?_))
  obtain ⟨z27, hz28, h⟩ := bnd h
  refine ecV [0] (caV call241) (fun w hp => d9 hr25 1 iV hp hz28) ?_
  rintro Γ29 _ _ hl30 ⟨row33, rfl, rfl, hr34, _⟩
  refine cwV 23 [_, _] (WR.done ?_)
  exact WC.ret fun w hw => re_ r [0] h hF hw ⟨row33, rfl, rfl, hr34, trivial⟩
 refine WC.skip (wc_ (WC.rs (mV (k:=?_))))
 obtain ⟨z35, hz36, h⟩ := bnd h
 refine ecV [0] (caV call241) (fun w hp => d9 hr25 0 iV hp hz36) ?_
 rintro Γ37 _ _ hl38 ⟨row41, rfl, rfl, hr42, _⟩
 refine cwV 25 [_, _] (WR.done ?_)
 refine WC.region ?_
 refine mV (k:=sV (q_fl 4 lk) (k:=sV (ldV 1 isAgg9) (k:=?_)))
 obtain ⟨z43, hz44, h⟩ := bnd h
 refine ecV [0] (caV call200) (fun w hp => kg hr42 v_.val hv_.2.2.2 hp hz44) ?_
 rintro Γ45 _ _ hl46 ⟨row49, rfl, rfl, hr50, _⟩
 refine cwV 29 [_, _] ?_
 refine WR.nil ?_
 intro w hw
 obtain rfl := Option.some.inj h
 subst hF
 exact aO (is := [0]) (by kernel_rfl) hw rfl ⟨row49, rfl, rfl, hr50, trivial⟩
abbrev nF (gw_ : Nat) (ew_ : Nat) (r : ae) (U : List Rowb) (Γ : Gh) (v : Value) : Prop := ∃ (roww_' : Rowb), v = .tuple #[] ∧ U = [roww_'] ∧ ae.ob ew_ Γ gw_ roww_' r ∧ True
theorem nu {gw_ ew_ : Nat} {roww_ : Rowb} {w_ : ae} (hw_ : ae.ob ew_ Γ gw_ roww_ w_) {Al : Option Addr} {cl : Nat} {l : List Ver} (hl : Sl verT Γ Al l) (hlc : l.length ≤ cl) (hp : Pre [roww_] Γ w0) {r : ae} (h : iq w_ l = some r) : Calls Tryz.prog 201 #[(pq gw_), .slice Al l.length cl, .func (.func 202) #[(pq gw_)] #[]] w0 (Outc Γ [roww_] w0 (nF gw_ ew_ r)) := by
 refine goV [] func201 ntmps201 results201 hp fun F hF => ?_
 refine WC.rs (mV (k:=mV (k:=sV (ab rfl underlying40) (k:=?_))))
 obtain ⟨z1, hz2, h⟩ := bnd h
 refine ecV [0] (caV call241) (fun w hp => d9 hw_ (l.length : Int) (lX hl.le) hp hz2) ?_
 rintro Γ3 _ _ hl4 ⟨row7, rfl, rfl, hr8, _⟩
 refine cwV 11 [_] (WR.done (WC.rs (mV (k:=sV (ab rfl underlying40) (k:=mV (k:=WR.done (WC.block ?_)))))))
 refine WC.forI h (fun (i15 : Nat) (o11 : ae) σ w => ∃ (Γ9 : Gh), ∃ (row12 : Rowb), slots σ [(2, .func (.func 202) #[(pq gw_)] #[]), (12, .slice Al l.length cl), (13, ii (l.length : Int)), (14, ii (i15 : Int))] ∧ CC F Γ9 [row12] w ∧ Gh.le Γ3 Γ9 ∧ ae.ob ew_ Γ9 gw_ row12 o11 ∧ True) ?_ ?_
 ·
  intro w hw
  exact ⟨Γ3, row7, slK, hw, gR, hr8, trivial⟩
 rintro f14 i15 o11 σ w hi16 hlt17 hge18 ⟨Γ9, row12, hsl, hw, hl10, ho13, -⟩
 refine slV hsl hw [_] ?_; clear hw hsl
 refine WC.rs (sV aS (k:=WR.done (WC.seq ?_)))
 refine coV (fun hb19 => ?_) (fun hb19 => ?_)
 ·
  have hl20 := ilt hb19
  have h := hlt17 hl20
  refine WC.skip (wc_ (WC.seq (WC.block (WC.rs (sV (bb (i := i15) underlying40 sizeOf37 rfl rfl rfl hl20 ((hl.mono (hl4.trans hl10)).some_ hl20)) (k:=?_))))))
  obtain ⟨A21, c22, hx23⟩ := (hl.mono (hl4.trans hl10)).verT_at i15
  refine sV (gY (c := 0) (vs := (Ver.cs A21 c22 (gt l i15))) (hx23 hl20).2 rfl isAgg37 sizeOf37 rfl rfl rfl) (k:=?_)
  refine alV zeroValue37 fun g24 => ?_
  refine stV 0 (.agg (Ver.cs A21 c22 (gt l i15)).toArray) (Ver.cs A21 c22 (gt l i15)).toArray sizeOf37 (k:=WR.done ?_)
  refine WC.region ?_
  refine mU (v := .func (.func 202) #[(pq gw_)] #[]) (k:=sV (ldaV 0 (Ver.cs A21 c22 (gt l i15)) isAgg37 sizeOf37) (k:=?_))
  obtain ⟨z25, hz26, h⟩ := bnd h
  refine ecV [1] (iy (first := #[(pq gw_)]) call202 rfl (by kernel_rfl) (by kernel_rfl)) (fun w hp => oy ho13 (gt l i15) (hx23 hl20).1 hp hz26) ?_
  rintro Γ27 _ _ hl28 ⟨row31, rfl, rfl, hr32, _⟩
  refine cwV 20 [_, _] ?_
  refine WR.nil ?_
  change WC _ _ _ _ _ _
  refine WC.region ?_
  refine sV (aC rfl rfl rfl (aP hl20 (hl.mono (hl4.trans hl10)).le)) (k:=mV (k:=?_))
  refine WR.nil ?_
  intro w hw
  exact ⟨hl20, z25, h, Γ27, row31, slK, (hw.on [0]), (hl10.trans hl28), hr32, trivial⟩
 have h := hge18 (ige hb19)
 refine WC.exit ?_
 intro w hw
 obtain rfl := Option.some.inj h
 subst hF
 exact aO (is := [0]) (by kernel_rfl) hw rfl ⟨row12, rfl, rfl, ho13, trivial⟩
abbrev ox (gw_ : Nat) (ew_ : Nat) (r : ae) (U : List Rowb) (Γ : Gh) (v : Value) : Prop := ∃ (roww_' : Rowb), v = .tuple #[] ∧ U = [roww_'] ∧ ae.ob ew_ Γ gw_ roww_' r ∧ True
theorem oO {gw_ ew_ : Nat} {roww_ : Rowb} {w_ : ae} (hw_ : ae.ob ew_ Γ gw_ roww_ w_) {Ar_1 : Option Addr} {cr_1 : Nat} (r_ : Rec) (hr_ : Rec.fits Γ Ar_1 cr_1 r_) (hp : Pre [roww_] Γ w0) {r : ae} (h : fW w_ r_ = some r) : Calls Tryz.prog 151 #[(pq gw_), .agg (Rec.cs Ar_1 cr_1 r_).toArray] w0 (Outc Γ [roww_] w0 (ox gw_ ew_ r)) := by
 refine goV [] func151 ntmps151 results151 hp fun F hF => ?_
 refine WC.rs ?_
 refine bxV (v := .agg (Rec.cs Ar_1 cr_1 r_).toArray) fun g1 => ?_
 refine WR.done (WC.rs (mV (k:=sV (q_fl 0 mh) (k:=sV (ldV 0 isAgg9) (k:=?_)))))
 obtain ⟨z2, hz3, h⟩ := bnd h
 refine ecV [1] (caV call200) (fun w hp => kg hw_ r_.key hr_.1 hp hz3) ?_
 rintro Γ4 _ _ hl5 ⟨row8, rfl, rfl, hr9, _⟩
 refine cwV 7 [_, _] (WR.done ?_)
 refine WC.region ?_
 refine mV (k:=sV (q_fl 1 df) (k:=sV (ldV 1 isAgg40) (k:=mV (k:=sV (jP (v := .func (.func 202) #[(pq gw_)] #[]) rfl (by kernel_rfl)) (k:=?_)))))
 obtain ⟨z10, hz11, h⟩ := bnd h
 refine ecV [0] (caV call201) (fun w hp => nu hr9 (hr_.2.2.mono hl5) hr_.2.1 hp hz11) ?_
 rintro Γ12 _ _ hl13 ⟨row16, rfl, rfl, hr17, _⟩
 refine cwV 13 [_, _] ?_
 refine WR.nil ?_
 intro w hw
 obtain rfl := Option.some.inj h
 subst hF
 exact aO (is := [0]) (by kernel_rfl) hw rfl ⟨row16, rfl, rfl, hr17, trivial⟩
abbrev rJ (r : (List UInt8) × Int) (U : List Rowb) (Γ : Gh) (v : Value) : Prop := ∃ (A0 : Option Addr), ∃ (c0 : Nat), ∃ (row0 : Rowb), v = .tuple #[.slice A0 r.1.length c0, .int .i64 r.2] ∧ U = [row0] ∧ Own av Γ 5 row0 A0 c0 r.1 ∧ I64 r.2 ∧ True
theorem ng {Ar_1 : Option Addr} {cr_1 : Nat} (r_ : Rec) (hr_ : Rec.fits Γ Ar_1 cr_1 r_) (hp : Pre [] Γ w0) {r : (List UInt8) × Int} (h : hO r_ = some r) : Calls Tryz.prog 92 #[.agg (Rec.cs Ar_1 cr_1 r_).toArray] w0 (Outc Γ [] w0 (rJ r)) := by
 refine goV [2, 3] func92 ntmps92 results92 hp fun F hF => ?_
 refine WC.rs ?_
 refine bxV (v := .agg (Rec.cs Ar_1 cr_1 r_).toArray) fun g1 => ?_
 refine aV (k:=aV (k:=WR.done (WC.seq (WC.rs (sV (ldaV 0 (Rec.cs Ar_1 cr_1 r_) isAgg42 sizeOf42) (k:=?_))))))
 obtain ⟨z2, hz3, h⟩ := bnd h
 refine vqV (caV call141) (fun w hw => jM (Γ := Gh.all w) r_ (Rec.fits_mono hr_ hw.sat.le_all) (Sat.all w) hz3) (k:=sV bu (k:=WR.done ?_))
 refine ciV h (fun hb4 h => ?_) (fun hb4 h => ?_)
 ·
  refine WC.rs (aV (k:=aV (k:=WR.done ?_)))
  refine WC.ret ?_
  intro w hw
  have hw := hw.pad
  exact re_ r [0] h hF hw ⟨none, 0, [], rfl, rfl, (Own.nil av _ 5), iV, trivial⟩
 refine WC.skip (wc_ (WC.rs (sV (dP (v := .agg #[.slice none 0 0]) rfl (fun w => by kernel_rfl)) (k:=?_))))
 refine bxV (v := .agg #[.slice none 0 0]) fun g5 => ?_
 refine aV (k:=WR.done (WC.rs (mV (k:=sV (ldaV 1 (Rec.cs Ar_1 cr_1 r_) isAgg42 sizeOf42) (k:=?_)))))
 refine WR.sub (fun w hw => hw.pad) ?_
 obtain ⟨row_6, hrow_6, hob_6⟩ : ∃ rw : Rowb, rw = ([[(g5, .cells #[.slice none 0 0] 252 (0, 0))], []] : List Rowb).flatten ∧ ae.ob 252 Γ g5 rw (⟨[]⟩ : ae) := ⟨_, rfl, none, 0, [], rfl, (Own.nil av Γ 5), trivial⟩
 refine foR [1, 0] hrow_6 [_, _] ?_
 obtain ⟨z7, hz8, h⟩ := bnd h
 refine ecV [0] (caV call151) (fun w hp => oO hob_6 r_ hr_ hp hz8) ?_
 rintro Γ9 _ _ hl10 ⟨row13, rfl, rfl, hr14, _⟩
 refine cwV 12 [_, _] (WR.done (WC.rs (mV (k:=sV nlV (k:=sV (q_fl 0 jb) (k:=?_))))))
 obtain ⟨A0_15, c0_15, r0_15, hrow_15, ho0_15, -⟩ := id hr14
 refine ufR 0 hrow_15 [_, _, _] ?_
 refine sV (ldV 0 isAgg70) (k:=aV (k:=aV (k:=WR.done ?_)))
 exact WC.ret fun w hw => re_ r [1] h hF hw ⟨A0_15, c0_15, r0_15, rfl, rfl, ho0_15, iV, trivial⟩
abbrev tv (r : List UInt8) (U : List Rowb) (Γ : Gh) (v : Value) : Prop := ∃ (A0 : Option Addr), ∃ (c0 : Nat), ∃ (row0 : Rowb), v = .slice A0 r.length c0 ∧ U = [row0] ∧ Own av Γ 5 row0 A0 c0 r ∧ True
theorem od {Ab : Option Addr} {cb : Nat} {rowb : Rowb} {b : List UInt8} (hb : Own av Γ 5 rowb Ab cb b) {Ar_1 : Option Addr} {cr_1 : Nat} (r_ : Rec) (hr_ : Rec.fits Γ Ar_1 cr_1 r_) (hp : Pre [rowb] Γ w0) {r : List UInt8} (h : iN b r_ = some r) : Calls Tryz.prog 145 #[.slice Ab b.length cb, .agg (Rec.cs Ar_1 cr_1 r_).toArray] w0 (Outc Γ [rowb] w0 (tv r)) := by
 refine goV [4] func145 ntmps145 results145 hp fun F hF => ?_
 refine WC.rs ?_
 refine bxV (v := .agg (Rec.cs Ar_1 cr_1 r_).toArray) fun g1 => ?_
 refine aV (k:=WR.done (WC.rs (sV (ldaV 0 (Rec.cs Ar_1 cr_1 r_) isAgg42 sizeOf42) (k:=?_))))
 obtain ⟨z2, hz3, h⟩ := bnd h
 refine ecV [] (caV call92) (fun w hp => ng r_ hr_ hp hz3) ?_
 rintro Γ4 _ _ hl5 ⟨A8, c9, row10, rfl, rfl, hr11, hr12, _⟩
 refine cwV 9 [_, _, _] (mV (k:=sV exV (k:=sV exV (k:=aV (k:=aV (k:=WR.done (WC.rs ?_)))))))
 refine mV (k:=mV (k:=?_))
 obtain ⟨hk13, h⟩ := ai h
 refine apV 2 z2.1 gT (hb.mono hl5) (of_decide_eq_true hk13) (fun w hw => lA (i := 0) rfl hr11 hw) ?_
 intro row14 A15 c16 ho17
 refine aV (k:=WR.done ?_)
 exact WC.ret fun w hw => re_ r [2] h hF hw ⟨A15, c16, row14, rfl, rfl, ho17, trivial⟩
abbrev rN (r : List UInt8) (U : List Rowb) (Γ : Gh) (v : Value) : Prop := ∃ (A0 : Option Addr), ∃ (c0 : Nat), ∃ (row0 : Rowb), v = .slice A0 r.length c0 ∧ U = [row0] ∧ Own av Γ 5 row0 A0 c0 r ∧ True
theorem rL {Ax_1 : Option Addr} {cx_1 : Nat} (x_ : ar) (hx_ : ar.fits Γ Ax_1 cx_1 x_) (hp : Pre [] Γ w0) {r : List UInt8} (h : i8 x_ = some r) : Calls Tryz.prog 89 #[.iface 98 (.agg (Rec.cs Ax_1 cx_1 x_.r).toArray)] w0 (Outc Γ [] w0 (rN r)) := by
 refine goV [2] func89 ntmps89 results89 hp fun F hF => ?_
 refine WC.rs (aV (k:=WR.done (WC.seq (WC.rs (mU (v := .iface 98 (.agg (Rec.cs Ax_1 cx_1 x_.r).toArray)) (k:=WR.done (WC.block ?_)))))))
 refine WC.rs (sV (dv underlying98 rfl rfl) (k:=sV exV (k:=sV exV (k:=WR.done ?_))))
 refine WC.ctk (b := true) (by kernel_rfl) rfl ?_
 refine WC.rs ?_
 refine alV zeroValue98 fun g1 => ?_
 refine stV 0 (.agg (Rec.cs Ax_1 cx_1 x_.r).toArray) (Rec.cs Ax_1 cx_1 x_.r).toArray sizeOf98 (k:=WR.done (WC.seq ?_))
 refine leV fun h02 => ?_
 refine eD (CC F Γ [[(g1, .cells (Rec.cs Ax_1 cx_1 x_.r).toArray 98 (0, 0))]]) (bo_ [0] gR h02) fun k => ?_
 change WH _ _ _ _ (CC F Γ [_]) _ 6 _ _
 refine hV 2 k (q:=q_fl 0 oI) (k:=hV 3 k (q:=ldaV 0 (Rec.cs Ax_1 cx_1 x_.r) isAgg42 sizeOf42) (k:=wl_ 0 rfl ?_))
 refine bsV #[ii 1] 2 fun g3 => ?_
 refine WR.nil (nxV (bo_ [1] gR h02) fun k => ?_)
 refine wl_ 1 rfl ?_
 have ho4 : Own intT Γ 2 [(g3, .cells #[ii 1] 2 (0, 0))] (some ⟨g3, 0, none⟩) 1 [1] := Own.of_blockL (T := intT) (ys := [1]) [[ii 1]] rfl (show 1 ≤ lim by decide) ⟨⟨rfl, iV⟩, trivial⟩
 have hc9 := ho4.capz
 refine seR 0 [_, _] fun Γ5 hl6 hr7 => ?_
 have hs8 := ho4.sl hl6 hr7
 refine WR.sub (fun w hw => hw.pad) ?_
 obtain ⟨z10, hz11, h⟩ := bnd h
 refine ecV [0] (caV call146) (fun w hp => gL (Own.nil av Γ5 5) hs8 hc9 hp hz11) ?_
 rintro Γ12 _ _ hl13 ⟨A16, c17, row18, rfl, rfl, hr19, _⟩
 refine cwV 17 [_, _, _] ?_
 refine WR.nil (nxV (bo_ [2] (hl6.trans hl13) h02) fun k => ?_)
 refine wl_ 4 rfl ?_
 obtain ⟨z20, hz21, h⟩ := bnd h
 refine ecV [0] (caV call145) (fun w hp => od hr19 x_.r ⟨hx_.1, ⟨hx_.2.1, (hx_.2.2.mono (hl6.trans hl13))⟩⟩ hp hz21) ?_
 rintro Γ22 _ _ hl23 ⟨A26, c27, row28, rfl, rfl, hr29, _⟩
 refine cwV 20 [_, _, _] ?_
 refine WR.nil (nxV (bo_ [2] ((hl6.trans hl13).trans hl23) h02) fun k => ?_)
 refine hV 5 k (q:=aoV) (k:=?_)
 refine WH.done (by kernel_rfl) ?_
 change WC _ _ _ _ _ _
 exact WC.ret fun w hw => re_ r [0] h hF hw ⟨A26, c27, row28, rfl, rfl, hr29, trivial⟩
abbrev ua (r : (List UInt8) × Int) (U : List Rowb) (Γ : Gh) (v : Value) : Prop := ∃ (A0 : Option Addr), ∃ (c0 : Nat), ∃ (row0 : Rowb), v = .tuple #[.slice A0 r.1.length c0, .int .i64 r.2] ∧ U = [row0] ∧ Own av Γ 5 row0 A0 c0 r.1 ∧ I64 r.2 ∧ True
theorem tU {Ab : Option Addr} {cb : Nat} {b : List UInt8} (hb : Sl av Γ Ab b) (hbc : b.length ≤ cb) (hp : Pre [] Γ w0) {r : (List UInt8) × Int} (h : iu b = some r) : Calls Tryz.prog 149 #[.slice Ab b.length cb] w0 (Outc Γ [] w0 (ua r)) := by
 refine goV [2, 3] func149 ntmps149 results149 hp fun F hF => ?_
 refine WC.rs (aV (k:=aV (k:=WR.done (WC.seq (WC.rs (mV (k:=sV (ab rfl underlying70) (k:=?_))))))))
 refine sV bB (k:=WR.done ?_)
 refine ciV h (fun hb1 h => ?_) (fun hb1 h => ?_)
 ·
  refine WC.rs (aV (k:=aV (k:=WR.done ?_)))
  refine WC.ret ?_
  intro w hw
  have hw := hw.pad
  exact re_ r [0] h hF hw ⟨none, 0, [], rfl, rfl, (Own.nil av _ 5), iV, trivial⟩
 refine WC.skip (wc_ (WC.rs (mV (k:=sV (ab rfl underlying70) (k:=?_)))))
 obtain ⟨z2, hz3, h⟩ := bnd h
 refine ecV [] (caV call178) (fun w hp => iR (b.length : Int) (lX hb.le) hp hz3) ?_
 rintro Γ4 _ _ hl5 ⟨A8, c9, row10, rfl, rfl, hr11, _⟩
 refine cwV 12 [_] (aV (k:=WR.done (WC.rs (mV (k:=mV (k:=?_))))))
 refine bsV #[.slice A8 z2.length c9, .slice Ab b.length cb] 70 fun g12 => ?_
 obtain ⟨z13, hz14, h⟩ := bnd h
 refine vqV (caV call197) (fun w hw => qd (Γ := Gh.all w) ((Own.of_blockL (T := slT av) (Γ := Gh.all w) (e := 70) (g := g12) (ys := ([z2, b] : List (List UInt8))) [[.slice A8 z2.length c9], [.slice Ab b.length cb]] rfl (show 2 ≤ lim by decide) (show Ty.rd (slT av) (Gh.all w) [.slice A8 z2.length c9] z2 ∧ Ty.rd (slT av) (Gh.all w) [.slice Ab b.length cb] b ∧ True from ⟨⟨A8, c9, rfl, hr11.capz, (hr11.sl hw.sat.le_all (hw.ra 1 rfl))⟩, ⟨Ab, cb, rfl, hbc, ((hb.mono hl5).mono hw.sat.le_all)⟩, trivial⟩)).sl gR (hw.ra 0 rfl)) (Nat.le_refl _) (Sat.all w) hz14) (k:=aV (k:=WR.done (WC.seq (WC.rs (mV (k:=WR.done (WC.block ?_)))))))
 refine WC.forU h (fun (i21 : Nat) (out_15 : List UInt8) σ w => ∃ (A16 : Option Addr), ∃ (c17 : Nat), ∃ (row18 : Rowb), slots σ [(0, .slice Ab b.length cb), (4, .slice A16 out_15.length c17), (5, .int .u32 z13), (17, ii (i21 : Int))] ∧ CC F Γ4 [row18] w ∧ Own av Γ4 5 row18 A16 c17 out_15 ∧ True) ?_ ?_
 ·
  intro w hw
  exact ⟨A8, c9, row10, slK, (hw.on [1]), hr11, trivial⟩
 rintro f20 i21 out_15 σ w hi22 hlt23 hge24 ⟨A16, c17, row18, hsl, hw, ho19, -⟩
 refine slV hsl hw [_] ?_; clear hw hsl
 refine WC.rs (sV aS (k:=WR.done (WC.seq ?_)))
 refine coV (fun hb25 => ?_) (fun hb25 => ?_)
 ·
  have hl26 := ilt hb25
  have h := hlt23 hl26
  refine WC.skip (wc_ (WC.seq (WC.block (WC.rs (mV (k:=aV (k:=WR.done ?_)))))))
  refine WC.region ?_
  refine mV (k:=mV (k:=mV (k:=sV ud (k:=?_))))
  obtain ⟨hk27, h⟩ := ai h
  refine sV (wo rfl rfl rfl hk27) (k:=sV (gZ underlying5 underlying297) (k:=?_))
  refine bsV #[.int .u8 (wu8 (ishr .u32 z13 (w64 (8 * (i21 : Int)))))] 5 fun g28 => ?_
  obtain ⟨hk29, h⟩ := ai h
  refine apV 1 [(b8 (wu8 (ishr .u32 z13 (w64 (8 * (i21 : Int))))))] gT ho19 (of_decide_eq_true hk29) (fun w hw => dR (i := 0) rfl (by exact (by show [Value.int .u8 (wu8 (ishr .u32 z13 (w64 (8 * (i21 : Int)))))] = [Value.int .u8 _]; rw [nB (yU _)])) hw) ?_
  intro row30 A31 c32 ho33
  refine aV (k:=?_)
  refine WR.nil ?_
  change WC _ _ _ _ _ _
  refine WC.region ?_
  refine sV (aC rfl rfl rfl (sT hl26 (by decide))) (k:=mV (k:=?_))
  refine WR.nil ?_
  intro w hw
  exact ⟨hl26, (out_15 ++ [(b8 (wu8 (ishr .u32 z13 (w64 (8 * (i21 : Int))))))]), h, A31, c32, row30, slK, (hw.on [1]), ho33, trivial⟩
 have h := hge24 (ige hb25)
 refine WC.exit ?_
 change WC _ _ _ _ _ _
 refine WC.rs (mV (k:=mV (k:=?_)))
 obtain ⟨hk34, h⟩ := ai h
 refine apV 0 b gT ho19 (of_decide_eq_true hk34) (fun w hw => mv (hb.mono hl5) hw) ?_
 intro row35 A36 c37 ho38
 refine aV (k:=aV (k:=WR.done ?_))
 exact WC.ret fun w hw => re_ r [0] h hF hw ⟨A36, c37, row35, rfl, rfl, ho38, iV, trivial⟩
theorem pk {gd ed : Nat} {rowd : Rowb} {d : a7} (hd : a7.ob ed Γ gd rowd d) (hdr : ∀ p ∈ rowd, Γ p.1 = some p.2) (hs : Sat Γ w0) {r : Int} (h : gN d = some r) : CQ Tryz.prog 199 #[(pq gd)] w0 (ii r) := by
 refine goQ [2] func199 ntmps199 results199 hs fun F hF => ?_
 refine WC.rs (aV (k:=WR.done (WC.rs (aV (k:=WR.done (WC.seq (WC.rs ?_)))))))
 refine mV (k:=sV nlV (k:=sV (q_fl 2 jF) (k:=?_)))
 obtain ⟨m1_1, r1_1, m2_1, r2_1, A3_1, c3_1, r3_1, hrow_1, ho0_1, ho1_1, ho2_1, ho3_1, -⟩ := id hd
 have hg_2 : ∀ u ∈ ([[(gd, .cells #[ii d.room, .map (some m1_1), .map (some m2_1), .slice A3_1 d.loose.length c3_1] ed (0, 0))], r1_1, r2_1, r3_1] : List Rowb), ∀ p ∈ u, Γ p.1 = some p.2 := fun u hu p hp => (fun p hp => (hdr p hp)) p (hrow_1 ▸ List.mem_flatten.2 ⟨u, hu, hp⟩)
 have hgc3 := hg_2 _ (List.mem_cons_self ..) (gd, _) (List.mem_singleton.2 rfl)
 have hgs4 := hg_2 r1_1 (by simp)
 have hgs5 := hg_2 r2_1 (by simp)
 have hgs6 := hg_2 r3_1 (by simp)
 have hs7 := ho3_1.sl gR hgs6
 refine sV (gF (v := .map (some m2_1)) hgc3 rfl isAgg90 rfl rfl) (k:=?_)
 refine vM ho2_1 (fun w hw p hp => hw.sat _ _ (hgs5 p hp)) rfl rfl rfl underlying90 rfl ?_
 intro g8 row9 hi10
 refine cwV 10 [_] (WR.done (WC.block ?_))
 refine WC.forE h (Comm.of_tot _ (fun _ _ => rfl) (fun _ _ _ => yt _ _ _)) (fun (l11 : List (ByteArray × (List UInt8))) (n_12 : Int) σ w => ∃ (row14 : Rowb), slots σ [(3, ii n_12), (10, (pq g8))] ∧ CC F Γ [row14] w ∧ I64 n_12 ∧ ItO (strK underlying9) (slT av).v Γ row14 g8 m2_1 r2_1 d.seen l11 ∧ True) ?_ ?_
 ·
  intro w hw
  exact ⟨row9, slK, hw, iV, hi10, trivial⟩
 rintro G21 l11 n_12 σ w hstep16 hK17 ⟨row14, hsl, hw, hr13, hi15, -⟩
 refine slV hsl hw [_] ?_; clear hw hsl
 refine WC.rs ?_
 refine yK (i := 0) rfl ho2_1.ks hi15 (fun w hw p hp => hw.sat _ _ (hgs5 p hp)) rfl rfl rfl rfl (fun hl22 => ?_) (fun en23 l24 v25 row26 hp27 hok28 hv29 hit30 he31 => ?_)
 ·
  have h := hK17 hl22
  refine cwV 11 [_] (sV exV (k:=WR.done (WC.seq ?_)))
  refine WC.cfk (b := false) (by kernel_rfl) rfl ?_
  refine WC.exit ?_
  change WC _ _ _ _ _ _
  refine WC.rs (mV (k:=aV (k:=WR.done ?_)))
  exact WC.ret fun w hw => rq_ r h hF hw
 obtain ⟨hlen18, s219, h, hgo20⟩ := hstep16 en23 l24 hp27
 obtain ⟨A32, c33, hv29, hc34, hs35⟩ := hv29
 obtain rfl : v25 = _ := List.cons.inj hv29 |>.1
 refine cwV 11 [_] (sV exV (k:=WR.done (WC.seq ?_)))
 refine WC.ctk (b := true) (by kernel_rfl) rfl ?_
 refine WC.skip (wc_ (WC.block (WC.rs (sV (vS (kv := .string en23.1) (v := .slice A32 en23.2.length c33) (i := 0) rfl he31 (fun w hw p hp => hw.sat _ _ (hgs5 p hp)) rfl rfl) (k:=sV exV (k:=aV (k:=WR.done ?_)))))))
 refine WC.region ?_
 refine mV (k:=mV (k:=sV (ab rfl underlying70) (k:=sV eE (k:=aV (k:=?_)))))
 refine WR.nil ?_
 intro w hw
 obtain rfl := Option.some.inj h
 exact ⟨l24, _, hlen18, hgo20, row26, slK, hw, (iA _), hit30, trivial⟩
abbrev uR (r : ah) (U : List Rowb) (Γ : Gh) (v : Value) : Prop := ∃ (A0 : Option Addr), ∃ (c0 : Nat), v = (ah.val r A0 c0) ∧ U = [] ∧ ah.ok Γ A0 c0 r ∧ True
theorem re (name : ByteArray) (hname : name.size ≤ lim) {Ab : Option Addr} {cb : Nat} {b : List UInt8} (hb : Sl av Γ Ab b) (hbc : b.length ≤ cb) (hp : Pre [] Γ w0) {r : ah} (h : kd name b = some r) : Calls Tryz.prog 42 #[.string name, .slice Ab b.length cb] w0 (Outc Γ [] w0 (uR r)) := by
 refine goV [4] func42 ntmps42 results42 hp fun F hF => ?_
 refine WC.rs ?_
 refine bxV (v := .string name) fun g1 => ?_
 refine bxV (v := .slice Ab b.length cb) fun g2 => ?_
 refine aU (v := .nilFunc) (k:=WR.done (WC.rs (sV (jP (v := .func (.func 95) #[] #[(pq g1), (pq g2)]) rfl (by kernel_rfl)) (k:=aU (v := .func (.func 95) #[] #[(pq g1), (pq g2)]) (k:=WR.done ?_)))))
 refine WC.ret ?_
 intro w hw
 obtain ⟨Γ3, hw, hl4, hr5⟩ := hw.seal (i := 1) rfl
 have hg6 := hr5 _ (List.mem_singleton.2 rfl)
 obtain ⟨Γ7, hw, hl8, hr9⟩ := hw.seal (i := 0) rfl
 have hg10 := hr9 _ (List.mem_singleton.2 rfl)
 have hf11 : ah.ok Γ7 (some ⟨g2, 0, none⟩) g1 (ah.disk_add_1 name b) := ⟨⟨(hl8 _ _ hg6), hname⟩, ⟨g2, Ab, cb, rfl, hg10, hbc, (hb.mono (hl4.trans hl8))⟩, trivial⟩
 obtain rfl := Option.some.inj h
 subst hF
 exact aO (is := []) (by kernel_rfl) hw rfl ⟨(some ⟨g2, 0, none⟩), g1, rfl, rfl, hf11, trivial⟩
abbrev nJ (gd : Nat) (ed : Nat) (r : a7 × Int) (U : List Rowb) (Γ : Gh) (v : Value) : Prop := ∃ (rowd' : Rowb), v = .int .i64 r.2 ∧ U = [rowd'] ∧ a7.ob ed Γ gd rowd' r.1 ∧ I64 r.2 ∧ True
theorem nr {gd ed : Nat} {rowd : Rowb} {d : a7} (hd : a7.ob ed Γ gd rowd d) (name : ByteArray) (hname : name.size ≤ lim) {Ab : Option Addr} {cb : Nat} {b : List UInt8} (hb : Sl av Γ Ab b) (hbc : b.length ≤ cb) (hp : Pre [rowd] Γ w0) {r : a7 × Int} (h : fB d name b = some r) : Calls Tryz.prog 150 #[(pq gd), .string name, .slice Ab b.length cb] w0 (Outc Γ [rowd] w0 (nJ gd ed r)) := by
 refine goV [6] func150 ntmps150 results150 hp fun F hF => ?_
 refine WC.rs (aV (k:=WR.done (WC.seq (WC.rs (mV (k:=?_))))))
 refine bsV #[.string name] 9 fun g1 => ?_
 have ho2 : Own strT Γ 9 [(g1, .cells #[.string name] 9 (0, 0))] (some ⟨g1, 0, none⟩) 1 [name] := Own.of_blockL (T := strT) (ys := [name]) [[.string name]] rfl (show 1 ≤ lim by decide) ⟨⟨rfl, hname⟩, trivial⟩
 obtain ⟨z3, hz4, h⟩ := bnd h
 refine vqV (caV call198) (fun w hw => nX (Γ := Gh.all w) (ho2.sl hw.sat.le_all (hw.ra 0 rfl)) ho2.capz (Sat.all w) hz4) (k:=sV bu (k:=WR.done ?_))
 refine ciV h (fun hb5 h => ?_) (fun hb5 h => ?_)
 ·
  refine WC.rs (aV (k:=WR.done ?_))
  exact WC.ret fun w hw => re_ r [1] h hF hw ⟨rowd, rfl, rfl, hd, iV, trivial⟩
 refine WC.skip (wc_ (WC.seq (WC.seq ?_)))
 obtain ⟨m1_6, r1_6, m2_6, r2_6, A3_6, c3_6, r3_6, hrow_6, ho0_6, ho1_6, ho2_6, ho3_6, -⟩ := id hd
 refine ufC 1 hrow_6 [_, _, _, _, _] ?_
 refine drV ?_
 refine zV moV (k:=zV (ab rfl underlying70) (k:=zV moV (k:=zV nlV (k:=zV (q_fl 0 xP) (k:=zV (ldV 0 isAgg3) (k:=zV moV (k:=?_)))))))
 obtain ⟨z7, hz8, h⟩ := bnd h
 refine wc rfl rfl rfl (bl (caV call199) (fun w hw => pk (Γ := Gh.all w) (hd.mono hw.sat.le_all) (hw.raU [0, 0, 0, 0] rfl hrow_6) (Sat.all w) hz8)) (zV hQ (k:=zV bB (k:=?_)))
 refine WQ.nil ?_
 change WC _ _ _ _ _ _
 refine ciV h (fun hb9 h => ?_) (fun hb9 h => ?_)
 ·
  refine WC.rs (aV (k:=WR.done ?_))
  refine WC.ret ?_
  intro w hw
  have hw := hw.fold (is := [0, 0, 0, 0]) rfl hrow_6
  exact re_ r [0] h hF hw ⟨rowd, rfl, rfl, hd, iV, trivial⟩
 refine WC.skip (wc_ (WC.rs (mV (k:=?_))))
 obtain ⟨z11, hz12, h⟩ := bnd h
 refine ecV [] (caV call183) (fun w hp => i7 hb hbc hp hz12) ?_
 rintro Γ13 _ _ hl14 ⟨A17, c18, row19, rfl, rfl, hr20, _⟩
 refine cwV 22 [_, _, _, _, _, _] (aV (k:=WR.done (WC.rs (mV (k:=mV (k:=mV (k:=?_)))))))
 have hc25 := hr20.capz
 refine seR 0 [_, _, _, _, _, _] fun Γ21 hl22 hr23 => ?_
 have hs24 := hr20.sl hl22 hr23
 obtain ⟨z26, hz27, h⟩ := bnd h
 refine ecV [] (caV call42) (fun w hp => re name hname hs24 hc25 hp hz27) ?_
 rintro Γ28 _ _ hl29 ⟨A32, c33, rfl, rfl, hr34, _⟩
 refine cwV 26 [_, _, _, _, _, _] (mV (k:=mV (k:=sV (aZ (v := .agg #[(ah.val z26 A32 c33), .string name, .slice A17 z11.length c18]) rfl (rH rfl rfl rfl) (fun w => by kernel_rfl)) (k:=?_))))
 refine foR [1, 1, 1, 1] hrow_6 [_, _, _] ?_
 obtain ⟨z36, hz37, h⟩ := bnd h
 refine ecV [0] (caV call186) (fun w hp => j9 (hd.mono ((hl14.trans hl22).trans hl29)) (⟨z26, name, z11⟩ : aw) ⟨hr34, hname, ⟨hc25, (hs24.mono hl29)⟩⟩ hp hz37) ?_
 rintro Γ38 _ _ hl39 ⟨row42, rfl, rfl, hr43, hr44, _⟩
 refine cwV 30 [_, _, _] (aV (k:=WR.done ?_))
 exact WC.ret fun w hw => re_ r [0] h hF hw ⟨row42, rfl, rfl, hr43, hr44, trivial⟩
abbrev nb (gl : Nat) (el : Nat × Nat) (edk0 : Nat) (r : af × a7 × Int) (U : List Rowb) (Γ : Gh) (v : Value) : Prop := ∃ (rowl' : Rowb), ∃ (rowdk0' : Rowb), v = .int .i64 r.2.2 ∧ U = [rowl', rowdk0'] ∧ af.ob el Γ gl rowl' r.1 ∧ a7.ob edk0 Γ el.2 rowdk0' r.2.1 ∧ I64 r.2.2 ∧ True
theorem eK {gl : Nat} {el : Nat × Nat} {rowl : Rowb} {l : af} (hl : af.ob el Γ gl rowl l) {Ab : Option Addr} {cb : Nat} {b : List UInt8} (hb : Sl av Γ Ab b) (hbc : b.length ≤ cb) {edk0 : Nat} {rowdk0 : Rowb} {dk0 : a7} (hdk0 : a7.ob edk0 Γ el.2 rowdk0 dk0) (hp : Pre [rowl, rowdk0] Γ w0) {r : af × a7 × Int} (h : b4 l b dk0 = some r) : Calls Tryz.prog 90 #[(pq gl), .slice Ab b.length cb] w0 (Outc Γ [rowl, rowdk0] w0 (nb gl el edk0 r)) := by
 refine goV [4] func90 ntmps90 results90 hp fun F hF => ?_
 refine WC.rs (aV (k:=WR.done (WC.rs (mV (k:=?_)))))
 obtain ⟨z1, hz2, h⟩ := bnd h
 refine ecV [] (caV call149) (fun w hp => tU hb hbc hp hz2) ?_
 rintro Γ3 _ _ hl4 ⟨A7, c8, row9, rfl, rfl, hr10, hr11, _⟩
 refine cwV 12 [_, _, _] (mV (k:=sV exV (k:=sV exV (k:=aV (k:=aV (k:=WR.done (WC.seq ?_)))))))
 refine WC.rs (mV (k:=sV bZ (k:=WR.done ?_)))
 refine ciV h (fun hb12 h => ?_) (fun hb12 h => ?_)
 ·
  refine WC.rs (mV (k:=aV (k:=WR.done ?_)))
  exact WC.ret fun w hw => re_ r [1, 1] h hF hw ⟨rowl, rowdk0, rfl, rfl, (hl.mono hl4), (hdk0.mono hl4), hr11, trivial⟩
 refine WC.skip (wc_ (WC.seq ?_))
 obtain ⟨hrow_13, ho0_13, ho1_13, ho2_13, ho3_13, ho4_13, ho5_13, ho6_13, -⟩ := (hl.mono hl4)
 refine ufC 1 hrow_13 [_, _, _] ?_
 refine drV ?_
 refine zV moV (k:=zV nlV (k:=zV (q_fl 4 ja) (k:=zV (ldV 0 isAgg2) (k:=zV moV (k:=zV nlV (k:=zV (q_fl 5 pG) (k:=zV (ldV 0 isAgg3) (k:=?_))))))))
 refine zV aoV (k:=zV aoV (k:=?_))
 refine WQ.nil ?_
 change WC _ _ _ _ _ _
 refine foC [0] hrow_13 [_, _, _] ?_
 refine WC.cut (fun σ w => ∃ (part_15 : Int), ∃ (tail_17 : Int), cE l dk0 z1 part_15 tail_17 = some r ∧ slots σ [(0, (pq gl)), (5, .slice A7 z1.1.length c8), (7, ii part_15), (8, ii tail_17)] ∧ CC F Γ3 [rowl, row9, rowdk0] w ∧ I64 part_15 ∧ I64 tail_17 ∧ True) ?_ ?_
 ·
  refine WC.rs (mV (k:=sV bp (k:=mV (k:=vG0 (h:=fun hg19 => moV) (k:=vG0 (h:=fun hg20 => bB rfl (grV hg20)) (k:=vG0 (h:=fun hg21 => ay (v := .bool (decide (0 < l.tail))) rfl (grV hg21)) (k:=vh1 (c0 := (!(l.last == 0))) (g := (decide (0 < l.tail))) rfl rfl rfl rfl rfl (fun _ => QV.qo moV) ?_)))))))
  refine vh1 (c0 := (!(l.last == 0))) (g := (decide (0 < l.tail))) rfl rfl rfl rfl rfl (fun hg23 => QV.qo (ab rfl underlying70 (grV hg23))) (vh1 (c0 := (!(l.last == 0))) (g := (decide (0 < l.tail))) rfl rfl rfl rfl rfl (fun _ => QV.qo moV) (vh1 (c0 := (!(l.last == 0))) (g := (decide (0 < l.tail))) rfl rfl rfl rfl rfl (fun hg25 => QV.qo (nlV (hv:=grV hg25))) (vh1 (c0 := (!(l.last == 0))) (g := (decide (0 < l.tail))) rfl rfl rfl rfl rfl (fun hg26 => QV.qo (q_fl 3 wW rfl (grV hg26))) ?_)))
  obtain ⟨hrow_28, ho0_28, ho1_28, ho2_28, ho3_28, ho4_28, ho5_28, ho6_28, -⟩ := (hl.mono hl4)
  refine ufR 0 hrow_28 [_, _, _] ?_
  refine vh1 (c0 := (!(l.last == 0))) (g := (decide (0 < l.tail))) rfl rfl rfl rfl rfl (fun hg29 => QV.qo (ldV 0 isAgg3 (hx:=grV hg29))) (vh1 (c0 := (!(l.last == 0))) (g := (decide (0 < l.tail))) rfl rfl rfl rfl rfl (fun _ => QV.qo moV) (vh1 (c0 := (!(l.last == 0))) (g := (decide (0 < l.tail))) rfl rfl rfl rfl rfl (fun hg31 => QV.qo (hQ rfl (grV hg31) (grV hg31))) (vh1 (c0 := (!(l.last == 0))) (g := (decide (0 < l.tail))) rfl rfl rfl rfl rfl (fun hg32 => QV.qo (bB rfl (grV hg32) (grV hg32))) (vG0 (h:=fun hg33 => fU rfl (grV hg33) (kX (c := (!(l.last == 0))) (g := (decide (0 < l.tail))) (y := (decide ((w64 (l.size - l.tail)) < (z1.1.length : Int)))) hg33)) (k:=sV pkO (k:=WR.done ?_))))))
  refine ciV h (fun hb34 h => ?_) (fun hb34 h => ?_)
  ·
   refine WC.region ?_
   refine mV (k:=sV eE (k:=aV (k:=aV (k:=?_))))
   refine WR.nil ?_
   intro w hw
   have hw := hw.fold (is := [0]) rfl hrow_28
   exact ⟨(w64 (l.last + 1)), 0, h, slK, hw, (iA _), iV, trivial⟩
  refine WC.skip ?_
  intro w hw
  have hw := hw.fold (is := [0]) rfl hrow_28
  exact ⟨l.last, l.tail, h, slK, hw, ho3_13, ho4_13, trivial⟩
 rintro σ w ⟨part_15, tail_17, h, hsl, hw, hr16, hr18, -⟩
 refine slV hsl hw [_, _, _] ?_; clear hw hsl
 refine WC.seq (WC.rs (mV (k:=sV bB (k:=WR.done ?_))))
 refine ciV h (fun hb37 h => ?_) (fun hb37 h => ?_)
 ·
  refine WC.rs (aV (k:=WR.done ?_))
  exact WC.ret fun w hw => re_ r [0, 1] h hF hw ⟨rowl, rowdk0, rfl, rfl, (hl.mono hl4), (hdk0.mono hl4), iV, trivial⟩
 refine WC.skip (wc_ (WC.seq ?_))
 refine WC.cut (fun σ w => ∃ (f_40 : List UInt8), ∃ (e_45 : Int), ∃ (o47 : a7), ∃ (Γ38 : Gh), ∃ (A41 : Option Addr), ∃ (c42 : Nat), ∃ (row48 : Rowb), fy l part_15 tail_17 f_40 e_45 o47 = some r ∧ slots σ [(0, (pq gl)), (5, .slice A41 f_40.length c42), (7, ii part_15), (8, ii tail_17), (9, ii e_45)] ∧ CC F Γ38 [rowl, row48] w ∧ Gh.le Γ3 Γ38 ∧ f_40.length ≤ c42 ∧ Sl av Γ38 A41 f_40 ∧ I64 e_45 ∧ a7.ob edk0 Γ38 el.2 row48 o47 ∧ True) ?_ ?_
 ·
  have hc54 := hr10.capz
  refine seC 1 [_, _, _] fun Γ50 hl51 hr52 => ?_
  have hs53 := hr10.sl hl51 hr52
  obtain ⟨hrow_55, ho0_55, ho1_55, ho2_55, ho3_55, ho4_55, ho5_55, ho6_55, -⟩ := (hl.mono (hl4.trans hl51))
  refine ufC 0 hrow_55 [_, _, _] ?_
  refine leV fun h056 => ?_
  refine eD (CC F Γ50 [[(gl, .cells #[.pointer (some ⟨el.2, 0, none⟩), .string l.place_name, ii l.place_gen, ii l.size, ii l.last, ii l.tail, ii l.count, ii l.bytes] el.1 (0, 0))], []]) (bo_ [0, 0] gR h056) fun k => ?_
  change WH _ _ _ _ (CC F Γ50 [_, _, _]) _ 19 _ _
  refine hV 0 k (q:=moV) (k:=hV 1 k (q:=nlV) (k:=hV 2 k (q:=q_fl 0 ix) (k:=hV 3 k (q:=q_fl 0 iw) (k:=hV 4 k (q:=ldV 0 isAgg31) (k:=hV 5 k (q:=moV) (k:=hV 6 k (q:=nlV) (k:=hV 7 k (q:=q_fl 0 ix) (k:=?_))))))))
  refine hV 8 k (q:=ldaV 0 [.pointer (some ⟨el.2, 0, none⟩), .string l.place_name, ii l.place_gen] isAgg148 sizeOf148) (k:=hV 9 k (q:=moV) (k:=hV 10 k (q:=nlV) (k:=hV 11 k (q:=q_fl 0 ix) (k:=hV 12 k (q:=q_fl 2 ph) (k:=hV 13 k (q:=ldV 0 isAgg2) (k:=hV 14 k (q:=moV) (k:=hV 16 k (q:=moV) (k:=?_))))))))
  refine wl_ 15 rfl ?_
  obtain ⟨z57, hz58, h⟩ := bnd h
  refine vqV (caV call137) (fun w hw => jS (Γ := Gh.all w) (gp__0 := el.2) l.place_name ho0_55 l.place_gen ho1_55 l.place_gen ho1_55 part_15 hr16 (Sat.all w) hz58) (k:=?_)
  refine WR.nil (nxV (bo_ [0, 0] gR h056) fun k => ?_)
  refine wl_ 17 rfl ?_
  obtain ⟨hk59, h⟩ := ai h
  obtain ⟨z60, hz61, h⟩ := bnd h
  refine ecV [2] (caV call150) (fun w hp => nr (hdk0.mono (hl4.trans hl51)) z57 (of_decide_eq_true hk59) hs53 hc54 hp hz61) ?_
  rintro Γ62 _ _ hl63 ⟨row66, rfl, rfl, hr67, hr68, _⟩
  refine cwV 64 [_, _, _] ?_
  refine WR.nil (nxV (bo_ [1, 1] hl63 h056) fun k => ?_)
  refine hV 18 k (q:=aoV) (k:=?_)
  refine WH.done (by kernel_rfl) ?_
  intro w hw
  have hw := hw.fold (is := [1]) rfl hrow_55
  exact ⟨z1.1, z60.2, z60.1, Γ62, A7, c8, row66, h, slK, (hw.on [0, 0]), (hl51.trans hl63), hc54, (hs53.mono hl63), hr68, hr67, trivial⟩
 rintro σ w ⟨f_40, e_45, o47, Γ38, A41, c42, row48, h, hsl, hw, hl39, hc44, hs43, hr46, ho49, -⟩
 refine slV hsl hw [_, _] ?_; clear hw hsl
 refine WC.rs (mV (k:=sV bZ (k:=WR.done ?_)))
 refine ciV h (fun hb70 h => ?_) (fun hb70 h => ?_)
 ·
  refine WC.rs (mV (k:=aV (k:=WR.done ?_)))
  exact WC.ret fun w hw => re_ r [0, 0] h hF hw ⟨rowl, row48, rfl, rfl, (hl.mono (hl4.trans hl39)), ho49, hr46, trivial⟩
 refine WC.skip (wc_ (WC.rs (mV (k:=mV (k:=mV (k:=mV (k:=mV (k:=?_))))))))
 refine sV (ab rfl underlying70) (k:=sV eE (k:=sV nlV (k:=sV (q_fl 4 ja) (k:=?_))))
 obtain ⟨hrow_71, ho0_71, ho1_71, ho2_71, ho3_71, ho4_71, ho5_71, ho6_71, -⟩ := (hl.mono (hl4.trans hl39))
 refine ufR 0 hrow_71 [_, _] ?_
 refine stV 0 (ii part_15) #[.pointer (some ⟨el.2, 0, none⟩), .string l.place_name, ii l.place_gen, ii l.size, ii part_15, ii l.tail, ii l.count, ii l.bytes] sizeOf2 (k:=sV nlV (k:=sV (q_fl 5 pG) (k:=stV 0 (ii (w64 (tail_17 + (f_40.length : Int)))) #[.pointer (some ⟨el.2, 0, none⟩), .string l.place_name, ii l.place_gen, ii l.size, ii part_15, ii (w64 (tail_17 + (f_40.length : Int))), ii l.count, ii l.bytes] sizeOf3 (k:=WR.done (WC.rs (mV (k:=sV nlV (k:=?_))))))))
 refine sV (q_fl 6 pN) (k:=sV (ldV 0 isAgg3) (k:=sV eE (k:=sV nlV (k:=sV (q_fl 6 pN) (k:=stV 0 (ii (w64 (l.count + 1))) #[.pointer (some ⟨el.2, 0, none⟩), .string l.place_name, ii l.place_gen, ii l.size, ii part_15, ii (w64 (tail_17 + (f_40.length : Int))), ii (w64 (l.count + 1)), ii l.bytes] sizeOf3 (k:=WR.done (WC.rs ?_)))))))
 refine mV (k:=sV nlV (k:=sV (q_fl 7 mS) (k:=sV (ldV 0 isAgg3) (k:=mV (k:=sV (ab rfl underlying70) (k:=sV eE (k:=sV nlV (k:=?_))))))))
 refine sV (q_fl 7 mS) (k:=stV 0 (ii (w64 (l.bytes + (f_40.length : Int)))) #[.pointer (some ⟨el.2, 0, none⟩), .string l.place_name, ii l.place_gen, ii l.size, ii part_15, ii (w64 (tail_17 + (f_40.length : Int))), ii (w64 (l.count + 1)), ii (w64 (l.bytes + (f_40.length : Int)))] sizeOf3 (k:=WR.done (WC.rs (aV (k:=WR.done ?_)))))
 refine WC.ret ?_
 intro w hw
 obtain ⟨row_72, hrow_72, hob_72⟩ : ∃ rw : Rowb, rw = ([[(gl, .cells #[.pointer (some ⟨el.2, 0, none⟩), .string l.place_name, ii l.place_gen, ii l.size, ii part_15, ii (w64 (tail_17 + (f_40.length : Int))), ii (w64 (l.count + 1)), ii (w64 (l.bytes + (f_40.length : Int)))] el.1 (0, 0))]] : List Rowb).flatten ∧ af.ob el Γ38 gl rw (⟨l.place_name, l.place_gen, l.size, part_15, (w64 (tail_17 + (f_40.length : Int))), (w64 (l.count + 1)), (w64 (l.bytes + (f_40.length : Int)))⟩ : af) := ⟨_, rfl, rfl, ho0_71, ho1_71, ho2_71, hr16, (iA _), (iA _), (iA _), trivial⟩
 have hw := hw.fold (is := [0]) rfl hrow_72
 obtain rfl := Option.some.inj h
 subst hF
 exact aO (is := [0, 0]) (by kernel_rfl) hw rfl ⟨row_72, row48, rfl, rfl, hob_72, ho49, iV, trivial⟩
abbrev o6 (gl : Nat) (el : Nat × Nat) (rowl : Rowb) (edk0 : Nat) (r : a7) (U : List Rowb) (Γ : Gh) (v : Value) : Prop := ∃ (rowdk0' : Rowb), v = .tuple #[] ∧ U = [rowl, rowdk0'] ∧ a7.ob edk0 Γ el.2 rowdk0' r ∧ True
theorem fX {gl : Nat} {el : Nat × Nat} {rowl : Rowb} {l : af} (hl : af.ob el Γ gl rowl l) {edk0 : Nat} {rowdk0 : Rowb} {dk0 : a7} (hdk0 : a7.ob edk0 Γ el.2 rowdk0 dk0) (hp : Pre [rowl, rowdk0] Γ w0) {r : a7} (h : cc l dk0 = some r) : Calls Tryz.prog 91 #[(pq gl)] w0 (Outc Γ [rowl, rowdk0] w0 (o6 gl el rowl edk0 r)) := by
 refine goV [] func91 ntmps91 results91 hp fun F hF => ?_
 refine WC.region ?_
 refine mV (k:=sV nlV (k:=sV (q_fl 0 ix) (k:=sV (q_fl 0 iw) (k:=?_))))
 obtain ⟨hrow_1, ho0_1, ho1_1, ho2_1, ho3_1, ho4_1, ho5_1, ho6_1, -⟩ := id hl
 refine ufR 0 hrow_1 [_, _] ?_
 refine sV (ldV 0 isAgg31) (k:=?_)
 obtain ⟨z2, hz3, h⟩ := bnd h
 refine ecV [1] (caV call22) (fun w hp => j7 hdk0 hp hz3) ?_
 rintro Γ4 _ _ hl5 ⟨row8, rfl, rfl, hr9, _⟩
 refine cwV 7 [_, _] ?_
 refine WR.nil ?_
 intro w hw
 have hw := hw.fold (is := [1]) rfl hrow_1
 obtain rfl := Option.some.inj h
 subst hF
 exact aO (is := [0, 0]) (by kernel_rfl) hw rfl ⟨row8, rfl, rfl, hr9, trivial⟩
abbrev mq (gq : Nat) (eq : Nat × Nat) (edk0 : Nat) (r : a6 × a7 × Int) (U : List Rowb) (Γ : Gh) (v : Value) : Prop := ∃ (rowq' : Rowb), ∃ (rowdk0' : Rowb), v = .int .i64 r.2.2 ∧ U = [rowq', rowdk0'] ∧ a6.ob eq Γ gq rowq' r.1 ∧ a7.ob edk0 Γ eq.2 rowdk0' r.2.1 ∧ I64 r.2.2 ∧ True
theorem jH {gq : Nat} {eq : Nat × Nat} {rowq : Rowb} {q : a6} (hq : a6.ob eq Γ gq rowq q) {Ax_1 : Option Addr} {cx_1 : Nat} (x_ : ar) (hx_ : ar.fits Γ Ax_1 cx_1 x_) (sync : Bool) {edk0 : Nat} {rowdk0 : Rowb} {dk0 : a7} (hdk0 : a7.ob edk0 Γ eq.2 rowdk0 dk0) (hp : Pre [rowq, rowdk0] Γ w0) {r : a6 × a7 × Int} (h : cY q x_ sync dk0 = some r) : Calls Tryz.prog 37 #[(pq gq), .iface 98 (.agg (Rec.cs Ax_1 cx_1 x_.r).toArray), .bool sync] w0 (Outc Γ [rowq, rowdk0] w0 (mq gq eq edk0 r)) := by
 refine goV [6] func37 ntmps37 results37 hp fun F hF => ?_
 refine WC.rs (aV (k:=WR.done (WC.seq (WC.rs (mV (k:=mU (v := .iface 98 (.agg (Rec.cs Ax_1 cx_1 x_.r).toArray)) (k:=?_)))))))
 obtain ⟨z1, hz2, h⟩ := bnd h
 refine vqV (caV call34) (fun w hw => gr (Γ := Gh.all w) (hq.mono hw.sat.le_all) (hw.ra 0 rfl) x_ (ar.fits_mono hx_ hw.sat.le_all) (Sat.all w) hz2) (k:=sV bu (k:=WR.done ?_))
 refine ciV h (fun hb3 h => ?_) (fun hb3 h => ?_)
 ·
  refine WC.rs (aV (k:=WR.done ?_))
  exact WC.ret fun w hw => re_ r [0, 0] h hF hw ⟨rowq, rowdk0, rfl, rfl, hq, hdk0, iV, trivial⟩
 refine WC.skip (wc_ (WC.rs (mU (v := .iface 98 (.agg (Rec.cs Ax_1 cx_1 x_.r).toArray)) (k:=?_))))
 obtain ⟨z4, hz5, h⟩ := bnd h
 refine ecV [] (caV call89) (fun w hp => rL x_ hx_ hp hz5) ?_
 rintro Γ6 _ _ hl7 ⟨A10, c11, row12, rfl, rfl, hr13, _⟩
 refine cwV 16 [_, _, _] (aV (k:=WR.done (WC.seq (WC.rs (mV (k:=sV nlV (k:=sV (q_fl 6 jy) (k:=?_))))))))
 obtain ⟨A2_14, c2_14, A5_14, c5_14, g6_14, r6_14, A7_14, c7_14, A8_14, A9_14, c9_14, r9_14, m11_14, r11_14, A12_14, c12_14, hrow_14, ho0_14, ho1_14, ho2_14, ho3_14, ho4_14, ho5_14, ho6_14, ho7_14, ho8_14, ho9_14, ho10_14, ho11_14, ho12_14, ho13_14, ho14_14, ho15_14, ho16_14, -⟩ := (hq.mono hl7)
 refine ufR 1 hrow_14 [_, _, _, _, _, _] ?_
 refine sV (ldV 0 isAgg75) (k:=mV (k:=?_))
 have hc19 := hr13.capz
 refine seR 4 [_, _, _, _, _, _] fun Γ15 hl16 hr17 => ?_
 have hs18 := hr13.sl hl16 hr17
 obtain ⟨z20, hz21, h⟩ := bnd h
 refine ecV [1, 4] (caV call90) (fun w hp => eK (ho8_14.mono hl16) hs18 hc19 (hdk0.mono (hl7.trans hl16)) hp hz21) ?_
 rintro Γ22 _ _ hl23 ⟨row26, row28, rfl, rfl, hr27, hr29, hr30, _⟩
 refine cwV 22 [_, _, _, _, _, _] (aV (k:=WR.done (WC.rs (mV (k:=sV bZ (k:=WR.done ?_))))))
 refine ciV h (fun hb31 h => ?_) (fun hb31 h => ?_)
 ·
  refine WC.rs (mV (k:=aV (k:=WR.done ?_)))
  refine WC.ret ?_
  intro w hw
  obtain ⟨row_32, hrow_32, hob_32⟩ : ∃ rw : Rowb, rw = ([[(gq, .cells #[ii q.c_self, ii q.c_sites, .slice A2_14 q.c_links.length c2_14, ii q.c_cap, ii q.c_base, .slice A5_14 q.c_members.length c5_14, (pq g6_14), .slice A7_14 q.applied.length c7_14, .pointer A8_14, .slice A9_14 q.list.length c9_14, ii q.next, .map (some m11_14), .slice A12_14 q.members.length c12_14] eq.1 (0, 0))], row26, r9_14, r11_14] : List Rowb).flatten ∧ a6.ob eq Γ22 gq rw (⟨q.c_self, q.c_sites, q.c_links, q.c_cap, q.c_base, q.c_members, z20.1, q.applied, q.under, q.list, q.next, q.gaps, q.members⟩ : a6) := ⟨_, rfl, A2_14, c2_14, A5_14, c5_14, g6_14, row26, A7_14, c7_14, A8_14, A9_14, c9_14, r9_14, m11_14, r11_14, A12_14, c12_14, rfl, ho0_14, ho1_14, ho2_14, (ho3_14.mono (hl16.trans hl23)), ho4_14, ho5_14, ho6_14, (ho7_14.mono (hl16.trans hl23)), hr27, ho9_14, (ho10_14.mono (hl16.trans hl23)), (ho11_14.mono (hl16.trans hl23)), (ho12_14.mono (hl16.trans hl23)), ho13_14, (ho14_14.mono (hl16.trans hl23)), ho15_14, (ho16_14.mono (hl16.trans hl23)), trivial⟩
  have hw := hw.fold (is := [2, 0, 1, 1]) rfl hrow_32
  obtain rfl := Option.some.inj h
  subst hF
  exact aO (is := [0, 0]) (by kernel_rfl) hw rfl ⟨row_32, row28, rfl, rfl, hob_32, hr29, hr30, trivial⟩
 refine WC.skip (wc_ ?_)
 obtain ⟨row_33, hrow_33, hob_33⟩ : ∃ rw : Rowb, rw = ([[(gq, .cells #[ii q.c_self, ii q.c_sites, .slice A2_14 q.c_links.length c2_14, ii q.c_cap, ii q.c_base, .slice A5_14 q.c_members.length c5_14, (pq g6_14), .slice A7_14 q.applied.length c7_14, .pointer A8_14, .slice A9_14 q.list.length c9_14, ii q.next, .map (some m11_14), .slice A12_14 q.members.length c12_14] eq.1 (0, 0))], row26, r9_14, r11_14] : List Rowb).flatten ∧ a6.ob eq Γ22 gq rw (⟨q.c_self, q.c_sites, q.c_links, q.c_cap, q.c_base, q.c_members, z20.1, q.applied, q.under, q.list, q.next, q.gaps, q.members⟩ : a6) := ⟨_, rfl, A2_14, c2_14, A5_14, c5_14, g6_14, row26, A7_14, c7_14, A8_14, A9_14, c9_14, r9_14, m11_14, r11_14, A12_14, c12_14, rfl, ho0_14, ho1_14, ho2_14, (ho3_14.mono (hl16.trans hl23)), ho4_14, ho5_14, ho6_14, (ho7_14.mono (hl16.trans hl23)), hr27, ho9_14, (ho10_14.mono (hl16.trans hl23)), (ho11_14.mono (hl16.trans hl23)), (ho12_14.mono (hl16.trans hl23)), ho13_14, (ho14_14.mono (hl16.trans hl23)), ho15_14, (ho16_14.mono (hl16.trans hl23)), trivial⟩
 refine foC [2, 0, 1, 1] hrow_33 [_, _, _] ?_
 refine WC.cut (fun σ w => ∃ (o36 : a7), ∃ (Γ34 : Gh), ∃ (row37 : Rowb), db q z4 z20 o36 = some r ∧ slots σ [(0, (pq gq)), (7, .slice A10 z4.length c11)] ∧ CC F Γ34 [row_33, row37] w ∧ Gh.le Γ22 Γ34 ∧ a7.ob edk0 Γ34 eq.2 row37 o36 ∧ True) ?_ ?_
 ·
  refine WC.rs (mV (k:=WR.done ?_))
  refine ciV h (fun hb39 h => ?_) (fun hb39 h => ?_)
  ·
   refine WC.region ?_
   refine mV (k:=sV nlV (k:=sV (q_fl 6 jy) (k:=?_)))
   obtain ⟨A2_40, c2_40, A5_40, c5_40, g6_40, r6_40, A7_40, c7_40, A8_40, A9_40, c9_40, r9_40, m11_40, r11_40, A12_40, c12_40, hrow_40, ho0_40, ho1_40, ho2_40, ho3_40, ho4_40, ho5_40, ho6_40, ho7_40, ho8_40, ho9_40, ho10_40, ho11_40, ho12_40, ho13_40, ho14_40, ho15_40, ho16_40, -⟩ := id hob_33
   refine ufR 0 hrow_40 [_, _, _, _, _, _] ?_
   refine sV (ldV 0 isAgg75) (k:=?_)
   obtain ⟨z41, hz42, h⟩ := bnd h
   refine ecV [1, 3] (caV call91) (fun w hp => fX ho8_40 hr29 hp hz42) ?_
   rintro Γ43 _ _ hl44 ⟨row47, rfl, rfl, hr48, _⟩
   refine cwV 31 [_, _, _, _, _, _] ?_
   refine WR.nil ?_
   intro w hw
   have hw := hw.fold (is := [2, 0, 1, 1]) rfl hrow_40
   exact ⟨z41, Γ43, row47, h, slK, (hw.on [0, 0]), hl44, hr48, trivial⟩
  refine WC.skip ?_
  intro w hw
  exact ⟨z20.2.1, Γ22, row28, h, slK, (hw.on [0, 0]), gR, hr29, trivial⟩
 rintro σ w ⟨o36, Γ34, row37, h, hsl, hw, hl35, ho38, -⟩
 refine slV hsl hw [_, _] ?_; clear hw hsl
 refine WC.rs (mV (k:=?_))
 obtain ⟨z50, hz51, h⟩ := bnd h
 refine ecV [] (caV call33) (fun w hp => gO (hs18.mono (hl23.trans hl35)) hc19 hp hz51) ?_
 rintro Γ52 _ _ hl53 (⟨ho56, rfl, rfl, _⟩ | ⟨o57, ho56, A58, c59, rfl, rfl, hr60, _⟩ | ⟨o57, ho56, A61, c62, A63, c64, rfl, rfl, hr65, _⟩ | ⟨o57, ho56, rfl, rfl, hr66, _⟩ | ⟨o57, ho56, rfl, rfl, hr67, _⟩)
 ·
  have h := am.e_nil ho56 h
  refine cwV 34 [_, _] (mV (k:=sV exV (k:=sV exV (k:=aU (v := .nilIface) (k:=aV (k:=WR.done (WC.rs ?_)))))))
  refine mV (k:=mU (v := .nilIface) (k:=?_))
  obtain ⟨z68, hz69, h⟩ := bnd h
  refine ecV [0] (caV call35) (fun w hp => cN (hob_33.mono (hl35.trans hl53)) hp hz69) ?_
  rintro Γ70 _ _ hl71 ⟨rfl, rfl, _⟩
  refine cwV 39 [_, _] (WR.done (WC.rs (aV (k:=WR.done ?_))))
  exact WC.ret fun w hw => re_ r [0, 0] h hF hw ⟨row_33, row37, rfl, rfl, (hob_33.mono ((hl35.trans hl53).trans hl71)), (ho38.mono (hl53.trans hl71)), iV, trivial⟩
 ·
  have h := am.e_queue_issue ho56 h
  refine cwV 34 [_, _] (mV (k:=sV exV (k:=sV exV (k:=aU (v := .iface 98 (.agg (Rec.cs A58 c59 o57.r).toArray)) (k:=aV (k:=WR.done (WC.rs ?_)))))))
  refine mV (k:=mU (v := .iface 98 (.agg (Rec.cs A58 c59 o57.r).toArray)) (k:=?_))
  obtain ⟨z74, hz75, h⟩ := bnd h
  refine ecV [0] (caV call35) (fun w hp => bU (hob_33.mono (hl35.trans hl53)) o57 hr60 hp hz75) ?_
  rintro Γ76 _ _ hl77 ⟨row80, rfl, rfl, hr81, _⟩
  refine cwV 39 [_, _] (WR.done (WC.rs (aV (k:=WR.done ?_))))
  exact WC.ret fun w hw => re_ r [0, 0] h hF hw ⟨row80, row37, rfl, rfl, hr81, (ho38.mono (hl53.trans hl77)), iV, trivial⟩
 ·
  have h := am.e_queue_did ho56 h
  refine cwV 34 [_, _] (mV (k:=sV exV (k:=sV exV (k:=aU (v := .iface 101 (.agg (aj.cs A61 c62 A63 c64 o57).toArray)) (k:=aV (k:=WR.done (WC.rs ?_)))))))
  refine mV (k:=mU (v := .iface 101 (.agg (aj.cs A61 c62 A63 c64 o57).toArray)) (k:=?_))
  obtain ⟨z82, hz83, h⟩ := bnd h
  refine ecV [0] (caV call35) (fun w hp => bN (hob_33.mono (hl35.trans hl53)) o57 hr65 hp hz83) ?_
  rintro Γ84 _ _ hl85 ⟨row88, rfl, rfl, hr89, _⟩
  refine cwV 39 [_, _] (WR.done (WC.rs (aV (k:=WR.done ?_))))
  exact WC.ret fun w hw => re_ r [0, 0] h hF hw ⟨row88, row37, rfl, rfl, hr89, (ho38.mono (hl53.trans hl85)), iV, trivial⟩
 ·
  have h := am.e_queue_ack ho56 h
  refine cwV 34 [_, _] (mV (k:=sV exV (k:=sV exV (k:=aU (v := .iface 107 (.agg (ak.cs o57).toArray)) (k:=aV (k:=WR.done (WC.rs ?_)))))))
  refine mV (k:=mU (v := .iface 107 (.agg (ak.cs o57).toArray)) (k:=?_))
  obtain ⟨z90, hz91, h⟩ := bnd h
  refine ecV [0] (caV call35) (fun w hp => bT (hob_33.mono (hl35.trans hl53)) o57 hr66 hp hz91) ?_
  rintro Γ92 _ _ hl93 ⟨row96, rfl, rfl, hr97, _⟩
  refine cwV 39 [_, _] (WR.done (WC.rs (aV (k:=WR.done ?_))))
  exact WC.ret fun w hw => re_ r [0, 0] h hF hw ⟨row96, row37, rfl, rfl, hr97, (ho38.mono (hl53.trans hl93)), iV, trivial⟩
 have h := am.e_queue_clear ho56 h
 refine cwV 34 [_, _] (mV (k:=sV exV (k:=sV exV (k:=aU (v := .iface 118 (.agg #[ii o57.sink])) (k:=aV (k:=WR.done (WC.rs ?_)))))))
 refine mV (k:=mU (v := .iface 118 (.agg #[ii o57.sink])) (k:=?_))
 obtain ⟨z98, hz99, h⟩ := bnd h
 refine ecV [0] (caV call35) (fun w hp => bS (hob_33.mono (hl35.trans hl53)) o57 hr67 hp hz99) ?_
 rintro Γ100 _ _ hl101 ⟨row104, rfl, rfl, hr105, _⟩
 refine cwV 39 [_, _] (WR.done (WC.rs (aV (k:=WR.done ?_))))
 exact WC.ret fun w hw => re_ r [0, 0] h hF hw ⟨row104, row37, rfl, rfl, hr105, (ho38.mono (hl53.trans hl101)), iV, trivial⟩
abbrev tV (r : Rec) (U : List Rowb) (Γ : Gh) (v : Value) : Prop := ∃ (A0_1 : Option Addr), ∃ (c0_1 : Nat), v = .agg #[.string r.key, .slice A0_1 r.vers.length c0_1] ∧ U = [] ∧ Rec.fits Γ A0_1 c0_1 r ∧ True
theorem qb {Ar_1 : Option Addr} {cr_1 : Nat} (r_ : Rec) (hr_ : Rec.fits Γ Ar_1 cr_1 r_) (hp : Pre [] Γ w0) {r : Rec} (h : iv r_ = some r) : Calls Tryz.prog 38 #[.agg (Rec.cs Ar_1 cr_1 r_).toArray] w0 (Outc Γ [] w0 (tV r)) := by
 refine dJ (N := 16) (rs := [.cell 2 42]) (args := [.agg (Rec.cs Ar_1 cr_1 r_).toArray]) func38 rfl ntmps38 results38 rfl ?_
 obtain ⟨F, hF⟩ : ∃ F : Fm, F = ⟨ids [], w0, Γ⟩ := ⟨_, rfl⟩
 refine WC.here (C := CC F Γ []) ?_ (hF ▸ hp.start)
 refine WC.rs ?_
 refine bxV (v := .agg (Rec.cs Ar_1 cr_1 r_).toArray) fun g1 => ?_
 refine alV zeroValue42 fun g2 => ?_
 refine WR.done (WC.rs (sV (ldaV 1 (Rec.cs Ar_1 cr_1 r_) isAgg42 sizeOf42) (k:=?_)))
 obtain ⟨z3, hz4, h⟩ := bnd h
 refine ecV [] (caV call92) (fun w hp => ng r_ hr_ hp hz4) ?_
 rintro Γ5 _ _ hl6 ⟨A9, c10, row11, rfl, rfl, hr12, hr13, _⟩
 refine cwV 7 [_, _, _] (mV (k:=sV exV (k:=sV exV (k:=aV (k:=aV (k:=WR.done (WC.rs ?_)))))))
 refine mV (k:=?_)
 have hc18 := hr12.capz
 refine seR 0 [_, _, _] fun Γ14 hl15 hr16 => ?_
 have hs17 := hr12.sl hl15 hr16
 obtain ⟨z19, hz20, h⟩ := bnd h
 refine ecV [] (caV call93) (fun w hp => nq hs17 hc18 hp hz20) ?_
 rintro Γ21 _ _ hl22 ⟨A25, c26, rfl, rfl, hr27, hr28, _⟩
 refine cwV 12 [_, _, _] (mV (k:=sV exV (k:=sV exV (k:=stV 2 (.agg (Rec.cs A25 c26 z19.1).toArray) (Rec.cs A25 c26 z19.1).toArray sizeOf42 (k:=WR.done (WC.rs (sV (ldaV 2 (Rec.cs A25 c26 z19.1) isAgg42 sizeOf42) (k:=?_))))))))
 refine stV 1 (.agg (Rec.cs A25 c26 z19.1).toArray) (Rec.cs A25 c26 z19.1).toArray sizeOf42 (k:=WR.done ?_)
 refine WC.ret ?_
 intro w hw
 obtain rfl := Option.some.inj h
 subst hF
 exact ⟨[.agg (Rec.cs A25 c26 z19.1).toArray], (dp (i := 1) (us := (Rec.cs A25 c26 z19.1)) hw rfl isAgg42 sizeOf42 (by kernel_rfl) rfl dk), aO (is := []) (by kernel_rfl) hw rfl ⟨A25, c26, rfl, rfl, hr27, trivial⟩⟩
abbrev n9 (gq : Nat) (eq : Nat × Nat) (rowq : Rowb) (r : Rec × Bool) (U : List Rowb) (Γ : Gh) (v : Value) : Prop := ∃ (A0_1 : Option Addr), ∃ (c0_1 : Nat), v = .tuple #[.agg #[.string r.1.key, .slice A0_1 r.1.vers.length c0_1], .bool r.2] ∧ U = [rowq] ∧ Rec.fits Γ A0_1 c0_1 r.1 ∧ True
theorem dc {gq : Nat} {eq : Nat × Nat} {rowq : Rowb} {q : a6} (hq : a6.ob eq Γ gq rowq q) (hp : Pre [rowq] Γ w0) {r : Rec × Bool} (h : bF q = some r) : Calls Tryz.prog 11 #[(pq gq)] w0 (Outc Γ [rowq] w0 (n9 gq eq rowq r)) := by
 refine dJ (N := 17) (rs := [.cell 2 42, .tmp 3]) (args := [(pq gq)]) func11 rfl ntmps11 results11 rfl ?_
 obtain ⟨F, hF⟩ : ∃ F : Fm, F = ⟨ids [rowq], w0, Γ⟩ := ⟨_, rfl⟩
 refine WC.here (C := CC F Γ [rowq]) ?_ (hF ▸ hp.start)
 refine WC.rs ?_
 refine alV zeroValue42 fun g1 => ?_
 refine aV (k:=WR.done (WC.seq (WC.rs (mV (k:=sV nlV (k:=sV (q_fl 8 iM) (k:=?_)))))))
 obtain ⟨A2_2, c2_2, A5_2, c5_2, g6_2, r6_2, A7_2, c7_2, A8_2, A9_2, c9_2, r9_2, m11_2, r11_2, A12_2, c12_2, hrow_2, ho0_2, ho1_2, ho2_2, ho3_2, ho4_2, ho5_2, ho6_2, ho7_2, ho8_2, ho9_2, ho10_2, ho11_2, ho12_2, ho13_2, ho14_2, ho15_2, ho16_2, -⟩ := id hq
 refine ufR 1 hrow_2 [_, _, _, _, _] ?_
 refine sV (ldV 0 isAgg81) (k:=sV (u7 ho11_2 underlying81 rfl rfl rfl) (k:=WR.done ?_))
 refine ciV h (fun hb3 h => ?_) (fun hb3 h => ?_)
 ·
  refine WC.rs (sV (dP (v := .agg #[.string ByteArray.empty, .slice none 0 0]) rfl (fun w => by kernel_rfl)) (k:=stV 4 (.agg #[.string ByteArray.empty, .slice none 0 0]) #[.string ByteArray.empty, .slice none 0 0] sizeOf42 (k:=aV (k:=WR.done ?_))))
  refine WC.ret ?_
  intro w hw
  have hw := hw.fold (is := [0, 0, 0, 0]) rfl hrow_2
  obtain rfl := Option.some.inj h
  subst hF
  exact ⟨[.agg #[.string ByteArray.empty, .slice none 0 0], .bool false], (dp (i := 1) (us := [.string ByteArray.empty, .slice none 0 0]) hw rfl isAgg42 sizeOf42 (by kernel_rfl) rfl (ji (by kernel_rfl) dk)), aO (is := [0]) (by kernel_rfl) hw rfl ⟨none, 0, rfl, rfl, ⟨(show (ByteArray.empty : ByteArray).size ≤ lim by decide), nilV⟩, trivial⟩⟩
 refine WC.skip (wc_ (WC.rs (mV (k:=sV nlV (k:=sV (q_fl 8 iM) (k:=sV (ldV 0 isAgg81) (k:=?_)))))))
 obtain ⟨hk5, h⟩ := ai h
 refine sV (qY ho11_2 hk5 rfl rfl) (k:=?_)
 obtain ⟨A6, c7, hx8⟩ := (Pd.sl ho11_2 hk5).recT_at 0
 refine sV (gY (c := 0) (vs := (Rec.cs A6 c7 (gt [gvo q.under] 0))) (hx8 Nat.zero_lt_one).2 rfl isAgg42 sizeOf42 rfl rfl rfl) (k:=?_)
 obtain ⟨z9, hz10, h⟩ := bnd h
 refine ecV [] (caV call38) (fun w hp => qb (gt [gvo q.under] 0) (hx8 Nat.zero_lt_one).1 hp hz10) ?_
 rintro Γ11 _ _ hl12 ⟨A15, c16, rfl, rfl, hr17, _⟩
 refine cwV 16 [_, _, _, _, _] (stV 4 (.agg (Rec.cs A15 c16 z9).toArray) (Rec.cs A15 c16 z9).toArray sizeOf42 (k:=aV (k:=WR.done ?_)))
 refine WC.ret ?_
 intro w hw
 have hw := hw.fold (is := [0, 0, 0, 0]) rfl hrow_2
 obtain rfl := Option.some.inj h
 subst hF
 exact ⟨[.agg (Rec.cs A15 c16 z9).toArray, .bool true], (dp (i := 1) (us := (Rec.cs A15 c16 z9)) hw rfl isAgg42 sizeOf42 (by kernel_rfl) rfl (ji (by kernel_rfl) dk)), aO (is := [0]) (by kernel_rfl) hw rfl ⟨A15, c16, rfl, rfl, hr17, trivial⟩⟩
abbrev n4 (gq : Nat) (eq : Nat × Nat) (edk0 : Nat) (r : a6 × a7 × Ver × Int) (U : List Rowb) (Γ : Gh) (v : Value) : Prop := ∃ (rowq' : Rowb), ∃ (rowdk0' : Rowb), ∃ (A0_2 : Option Addr), ∃ (c0_2 : Nat), v = .tuple #[.agg #[.int .i64 r.2.2.1.dot.s, .int .i64 r.2.2.1.dot.n, .slice A0_2 r.2.2.1.past.length c0_2, .bool r.2.2.1.gone, .string r.2.2.1.val], .int .i64 r.2.2.2] ∧ U = [rowq', rowdk0'] ∧ a6.ob eq Γ gq rowq' r.1 ∧ a7.ob edk0 Γ eq.2 rowdk0' r.2.1 ∧ Ver.fits Γ A0_2 c0_2 r.2.2.1 ∧ I64 r.2.2.2 ∧ True
theorem eH {gq : Nat} {eq : Nat × Nat} {rowq : Rowb} {q : a6} (hq : a6.ob eq Γ gq rowq q) (key : ByteArray) (hkey : key.size ≤ lim) {Apast : Option Addr} {cpast : Nat} {past : List Span} (hpast : Sl iU Γ Apast past) (hpastc : past.length ≤ cpast) (gone : Bool) (val : ByteArray) (hval : val.size ≤ lim) {edk0 : Nat} {rowdk0 : Rowb} {dk0 : a7} (hdk0 : a7.ob edk0 Γ eq.2 rowdk0 dk0) (hp : Pre [rowq, rowdk0] Γ w0) {r : a6 × a7 × Ver × Int} (h : bX q key past gone val dk0 = some r) : Calls Tryz.prog 10 #[(pq gq), .string key, .slice Apast past.length cpast, .bool gone, .string val] w0 (Outc Γ [rowq, rowdk0] w0 (n4 gq eq edk0 r)) := by
 refine dJ (N := 67) (rs := [.cell 10 37, .tmp 11]) (args := [(pq gq), .string key, .slice Apast past.length cpast, .bool gone, .string val]) func10 rfl ntmps10 results10 rfl ?_
 obtain ⟨F, hF⟩ : ∃ F : Fm, F = ⟨ids [rowq, rowdk0], w0, Γ⟩ := ⟨_, rfl⟩
 refine WC.here (C := CC F Γ [rowq, rowdk0]) ?_ (hF ▸ hp.start)
 refine WC.rs ?_
 refine alV zeroValue37 fun g1 => ?_
 refine aV (k:=WR.done (WC.seq (WC.rs (mV (k:=sV nlV (k:=sV (q_fl 8 iM) (k:=?_)))))))
 obtain ⟨A2_2, c2_2, A5_2, c5_2, g6_2, r6_2, A7_2, c7_2, A8_2, A9_2, c9_2, r9_2, m11_2, r11_2, A12_2, c12_2, hrow_2, ho0_2, ho1_2, ho2_2, ho3_2, ho4_2, ho5_2, ho6_2, ho7_2, ho8_2, ho9_2, ho10_2, ho11_2, ho12_2, ho13_2, ho14_2, ho15_2, ho16_2, -⟩ := id hq
 refine ufR 1 hrow_2 [_, _, _, _, _, _] ?_
 refine sV (ldV 0 isAgg81) (k:=sV (un ho11_2 underlying81 rfl rfl rfl) (k:=WR.done ?_))
 refine ciV h (fun hb3 h => ?_) (fun hb3 h => ?_)
 ·
  refine WC.rs (sV (dP (v := .agg #[ii 0, ii 0, .slice none 0 0, .bool false, .string ByteArray.empty]) rfl (fun w => by kernel_rfl)) (k:=stV 4 (.agg #[ii 0, ii 0, .slice none 0 0, .bool false, .string ByteArray.empty]) #[ii 0, ii 0, .slice none 0 0, .bool false, .string ByteArray.empty] sizeOf37 (k:=aV (k:=WR.done ?_))))
  refine WC.ret ?_
  intro w hw
  have hw := hw.fold (is := [0, 0, 0, 0]) rfl hrow_2
  obtain rfl := Option.some.inj h
  subst hF
  exact ⟨[.agg #[ii 0, ii 0, .slice none 0 0, .bool false, .string ByteArray.empty], ii 202], (dp (i := 1) (us := [ii 0, ii 0, .slice none 0 0, .bool false, .string ByteArray.empty]) hw rfl isAgg37 sizeOf37 (by kernel_rfl) rfl (ji (by kernel_rfl) dk)), aO (is := [0, 1]) (by kernel_rfl) hw rfl ⟨rowq, rowdk0, none, 0, rfl, rfl, hq, hdk0, ⟨iV, iV, nilV, (show (ByteArray.empty : ByteArray).size ≤ lim by decide)⟩, iV, trivial⟩⟩
 refine WC.skip (wc_ (WC.seq ?_))
 refine leV fun h05 => ?_
 refine eD (CC F Γ [[(gq, .cells #[ii q.c_self, ii q.c_sites, .slice A2_2 q.c_links.length c2_2, ii q.c_cap, ii q.c_base, .slice A5_2 q.c_members.length c5_2, (pq g6_2), .slice A7_2 q.applied.length c7_2, .pointer A8_2, .slice A9_2 q.list.length c9_2, ii q.next, .map (some m11_2), .slice A12_2 q.members.length c12_2] eq.1 (0, 0))], r6_2, r11_2, [(g1, .cells #[ii 0, ii 0, .slice none 0 0, .bool false, .string ByteArray.empty] 37 (0, 0))]]) (bo_ [0, 0, 1, 1] gR h05) fun k => ?_
 change WH _ _ _ _ (CC F Γ [_, _, _, _, _, _]) _ 16 _ _
 refine hV 0 k (q:=moV) (k:=hV 1 k (q:=nlV) (k:=hV 2 k (q:=q_fl 7 eR) (k:=hV 3 k (q:=ldV 0 isAgg46) (k:=hV 4 k (q:=moV) (k:=hV 5 k (q:=nlV) (k:=hV 6 k (q:=q_fl 0 iL) (k:=hV 7 k (q:=q_fl 0 iJ) (k:=?_))))))))
 refine hV 8 k (q:=ldV 0 isAgg3) (k:=?_)
 obtain ⟨z6, hz7, h⟩ := bnd h
 refine WH.each (l := [9, 13]) (by kernel_rfl) (by simp) ?_
 intro i hi; simp only [List.mem_cons, List.not_mem_nil, or_false] at hi
 rcases hi with rfl | rfl
 ·
  refine ⟨_, rfl, ?_⟩
  refine vqV (caV call36) (fun w hw => jz (Γ := Gh.all w) (ho10_2.mono hw.sat.le_all) ho9_2 q.c_self ho0_2 (Sat.all w) hz7) (k:=?_)
  refine WR.nil (nxV (bo_ [0, 0, 1, 1] gR h05) fun k => ?_)
  refine hV 10 k (q:=moV) (k:=hV 11 k (q:=exV) (k:=hV 12 k (q:=exV) (k:=wl_ 13 rfl ?_)))
  refine alV zeroValue35 fun g8 => ?_
  refine WR.nil (nxV (bo_ [1, 1, 2, 2] gR h05) fun k => ?_)
  refine wl_ 14 rfl (stV 0 (.agg (Dot.cs z6.1).toArray) (Dot.cs z6.1).toArray sizeOf35 (k:=?_))
  refine WR.nil (nxV (bo_ [1, 1, 2, 2] gR h05) fun k => ?_)
  refine hV 15 k (q:=aoV) (k:=?_)
  refine WH.done (by kernel_rfl) ?_
  change WC _ _ _ _ _ _
  refine WC.seq (WC.rs (mV (k:=sV bZ (k:=WR.done ?_))))
  refine ciV h (fun hb9 h => ?_) (fun hb9 h => ?_)
  ·
   refine WC.rs (sV (dP (v := .agg #[ii 0, ii 0, .slice none 0 0, .bool false, .string ByteArray.empty]) rfl (fun w => by kernel_rfl)) (k:=mV (k:=stV 5 (.agg #[ii 0, ii 0, .slice none 0 0, .bool false, .string ByteArray.empty]) #[ii 0, ii 0, .slice none 0 0, .bool false, .string ByteArray.empty] sizeOf37 (k:=aV (k:=WR.done ?_)))))
   refine WC.ret ?_
   intro w hw
   have hw := hw.fold (is := [1, 1, 1, 1]) rfl hrow_2
   obtain ⟨hk11, h⟩ := ai h
   obtain rfl := Option.some.inj h
   subst hF
   exact ⟨[.agg #[ii 0, ii 0, .slice none 0 0, .bool false, .string ByteArray.empty], ii z6.2], (dp (i := 2) (us := [ii 0, ii 0, .slice none 0 0, .bool false, .string ByteArray.empty]) hw rfl isAgg37 sizeOf37 (by kernel_rfl) rfl (ji (by kernel_rfl) dk)), aO (is := [0, 2]) (by kernel_rfl) hw rfl ⟨rowq, rowdk0, none, 0, rfl, rfl, hq, hdk0, ⟨iV, iV, nilV, (show (ByteArray.empty : ByteArray).size ≤ lim by decide)⟩, (dQ hk11), trivial⟩⟩
  refine WC.skip (wc_ (WC.rs (mV (k:=sV (ldaV 0 (Dot.cs z6.1) isAgg35 sizeOf35) (k:=mV (k:=mV (k:=mV (k:=?_))))))))
  refine sV (aZ (v := .agg #[ii z6.1.s, ii z6.1.n, .slice Apast past.length cpast, .bool gone, .string val]) rfl (yc rfl rfl rfl rfl) (fun w => by kernel_rfl)) (k:=?_)
  refine bsV #[ii z6.1.s, ii z6.1.n, .slice Apast past.length cpast, .bool gone, .string val] 37 fun g12 => ?_
  refine sV (aZ (v := .agg #[.string key, .slice (some ⟨g12, 0, none⟩) 1 1]) rfl (iE rfl rfl) (fun w => by kernel_rfl)) (k:=?_)
  refine alV zeroValue42 fun g13 => ?_
  refine stV 0 (.agg #[.string key, .slice (some ⟨g12, 0, none⟩) 1 1]) #[.string key, .slice (some ⟨g12, 0, none⟩) 1 1] sizeOf42 (k:=WR.done (WC.seq (WC.rs (mV (k:=sV (ldaV 0 [.string key, .slice (some ⟨g12, 0, none⟩) 1 1] isAgg42 sizeOf42) (k:=sV (aZ (v := .agg #[.string key, .slice (some ⟨g12, 0, none⟩) 1 1]) rfl (jN rfl) (fun w => by kernel_rfl)) (k:=sV (eN rfl rfl (fun w => mkif underlying98 w)) (k:=?_))))))))
  obtain ⟨hk14, h⟩ := ai h
  obtain ⟨hk15, h⟩ := ai h
  have ho16 : Own verT Γ 37 [(g12, .cells #[ii z6.1.s, ii z6.1.n, .slice Apast past.length cpast, .bool gone, .string val] 37 (0, 0))] (some ⟨g12, 0, none⟩) 1 [(⟨(⟨z6.1.s, z6.1.n⟩ : Dot), past, gone, val⟩ : Ver)] := Own.of_blockL (T := verT) (ys := [(⟨(⟨z6.1.s, z6.1.n⟩ : Dot), past, gone, val⟩ : Ver)]) [[ii z6.1.s, ii z6.1.n, .slice Apast past.length cpast, .bool gone, .string val]] rfl (show 1 ≤ lim by decide) ⟨⟨Apast, cpast, rfl, ⟨(dQ hk14), (dQ hk15), ⟨hpastc, hpast⟩, hval⟩⟩, trivial⟩
  have hc21 := ho16.capz
  refine seR 1 [_, _, _, _, _, _, _, _, _] fun Γ17 hl18 hr19 => ?_
  have hs20 := ho16.sl hl18 hr19
  refine foR [3, 3, 3, 3] hrow_2 [_, _, _, _, _, _] ?_
  obtain ⟨z23, hz24, h⟩ := bnd h
  refine ecV [0, 4] (caV call37) (fun w hp => jH (hq.mono hl18) (⟨(⟨key, [(⟨(⟨z6.1.s, z6.1.n⟩ : Dot), past, gone, val⟩ : Ver)]⟩ : Rec)⟩ : ar) ⟨hkey, ⟨hc21, hs20⟩⟩ true (hdk0.mono hl18) hp hz24) ?_
  rintro Γ25 _ _ hl26 ⟨row29, row31, rfl, rfl, hr30, hr32, hr33, _⟩
  refine cwV 53 [_, _, _, _, _, _] (aV (k:=WR.done (WC.rs (mV (k:=sV bZ (k:=WR.done ?_))))))
  refine ciV h (fun hb34 h => ?_) (fun hb34 h => ?_)
  ·
   refine WC.rs (sV (dP (v := .agg #[ii 0, ii 0, .slice none 0 0, .bool false, .string ByteArray.empty]) rfl (fun w => by kernel_rfl)) (k:=mV (k:=stV 5 (.agg #[ii 0, ii 0, .slice none 0 0, .bool false, .string ByteArray.empty]) #[ii 0, ii 0, .slice none 0 0, .bool false, .string ByteArray.empty] sizeOf37 (k:=aV (k:=WR.done ?_)))))
   refine WC.ret ?_
   intro w hw
   obtain rfl := Option.some.inj h
   subst hF
   exact ⟨[.agg #[ii 0, ii 0, .slice none 0 0, .bool false, .string ByteArray.empty], ii z23.2.2], (dp (i := 5) (us := [ii 0, ii 0, .slice none 0 0, .bool false, .string ByteArray.empty]) hw rfl isAgg37 sizeOf37 (by kernel_rfl) rfl (ji (by kernel_rfl) dk)), aO (is := [0, 0]) (by kernel_rfl) hw rfl ⟨row29, row31, none, 0, rfl, rfl, hr30, hr32, ⟨iV, iV, nilV, (show (ByteArray.empty : ByteArray).size ≤ lim by decide)⟩, hr33, trivial⟩⟩
  refine WC.skip (wc_ (WC.rs (mV (k:=?_))))
  obtain ⟨z35, hz36, h⟩ := bnd h
  refine ecV [0] (caV call11) (fun w hp => dc hr30 hp hz36) ?_
  rintro Γ37 _ _ hl38 ⟨A41, c42, rfl, rfl, hr43, _⟩
  refine cwV 60 [_, _, _, _, _, _] (mV (k:=sV exV (k:=sV exV (k:=?_))))
  refine alV zeroValue42 fun g44 => ?_
  refine stV 0 (.agg (Rec.cs A41 c42 z35.1).toArray) (Rec.cs A41 c42 z35.1).toArray sizeOf42 (k:=aV (k:=WR.done (WC.rs (sV (q_fl 1 df) (k:=sV (ldV 0 isAgg40) (k:=?_))))))
  obtain ⟨hk45, h⟩ := ai h
  refine sV (bb (i := 0) underlying40 sizeOf37 rfl rfl rfl (of_decide_eq_true hk45) (hr43.2.2.some_ (of_decide_eq_true hk45))) (k:=?_)
  obtain ⟨A46, c47, hx48⟩ := hr43.2.2.verT_at 0
  refine sV (gY (c := 0) (vs := (Ver.cs A46 c47 (gt z35.1.vers 0))) (hx48 (of_decide_eq_true hk45)).2 rfl isAgg37 sizeOf37 rfl rfl rfl) (k:=stV 6 (.agg (Ver.cs A46 c47 (gt z35.1.vers 0)).toArray) (Ver.cs A46 c47 (gt z35.1.vers 0)).toArray sizeOf37 (k:=aV (k:=WR.done ?_)))
  refine WC.ret ?_
  intro w hw
  obtain rfl := Option.some.inj h
  subst hF
  exact ⟨[.agg (Ver.cs A46 c47 (gt z35.1.vers 0)).toArray, ii 0], (dp (i := 6) (us := (Ver.cs A46 c47 (gt z35.1.vers 0))) hw rfl isAgg37 sizeOf37 (by kernel_rfl) rfl (ji (by kernel_rfl) dk)), aO (is := [1, 1]) (by kernel_rfl) hw rfl ⟨row29, row31, A46, c47, rfl, rfl, (hr30.mono hl38), (hr32.mono hl38), (hx48 (of_decide_eq_true hk45)).1, iV, trivial⟩⟩
 refine ⟨_, rfl, ?_⟩
 refine alV zeroValue35 fun g8 => ?_
 refine WR.nil (nxV (bo_ [1, 1, 2, 2] gR h05) fun k => ?_)
 refine wl_ 9 rfl (vqV (caV call36) (fun w hw => jz (Γ := Gh.all w) (ho10_2.mono hw.sat.le_all) ho9_2 q.c_self ho0_2 (Sat.all w) hz7) (k:=?_))
 refine WR.nil (nxV (bo_ [1, 1, 2, 2] gR h05) fun k => ?_)
 refine hV 10 k (q:=moV) (k:=hV 11 k (q:=exV) (k:=hV 12 k (q:=exV) (k:=wl_ 14 rfl (stV 0 (.agg (Dot.cs z6.1).toArray) (Dot.cs z6.1).toArray sizeOf35 (k:=?_)))))
 refine WR.nil (nxV (bo_ [1, 1, 2, 2] gR h05) fun k => ?_)
 refine hV 15 k (q:=aoV) (k:=?_)
 refine WH.done (by kernel_rfl) ?_
 change WC _ _ _ _ _ _
 refine WC.seq (WC.rs (mV (k:=sV bZ (k:=WR.done ?_))))
 refine ciV h (fun hb9 h => ?_) (fun hb9 h => ?_)
 ·
  refine WC.rs (sV (dP (v := .agg #[ii 0, ii 0, .slice none 0 0, .bool false, .string ByteArray.empty]) rfl (fun w => by kernel_rfl)) (k:=mV (k:=stV 5 (.agg #[ii 0, ii 0, .slice none 0 0, .bool false, .string ByteArray.empty]) #[ii 0, ii 0, .slice none 0 0, .bool false, .string ByteArray.empty] sizeOf37 (k:=aV (k:=WR.done ?_)))))
  refine WC.ret ?_
  intro w hw
  have hw := hw.fold (is := [1, 1, 1, 1]) rfl hrow_2
  obtain ⟨hk11, h⟩ := ai h
  obtain rfl := Option.some.inj h
  subst hF
  exact ⟨[.agg #[ii 0, ii 0, .slice none 0 0, .bool false, .string ByteArray.empty], ii z6.2], (dp (i := 2) (us := [ii 0, ii 0, .slice none 0 0, .bool false, .string ByteArray.empty]) hw rfl isAgg37 sizeOf37 (by kernel_rfl) rfl (ji (by kernel_rfl) dk)), aO (is := [0, 2]) (by kernel_rfl) hw rfl ⟨rowq, rowdk0, none, 0, rfl, rfl, hq, hdk0, ⟨iV, iV, nilV, (show (ByteArray.empty : ByteArray).size ≤ lim by decide)⟩, (dQ hk11), trivial⟩⟩
 refine WC.skip (wc_ (WC.rs (mV (k:=sV (ldaV 0 (Dot.cs z6.1) isAgg35 sizeOf35) (k:=mV (k:=mV (k:=mV (k:=?_))))))))
 refine sV (aZ (v := .agg #[ii z6.1.s, ii z6.1.n, .slice Apast past.length cpast, .bool gone, .string val]) rfl (yc rfl rfl rfl rfl) (fun w => by kernel_rfl)) (k:=?_)
 refine bsV #[ii z6.1.s, ii z6.1.n, .slice Apast past.length cpast, .bool gone, .string val] 37 fun g12 => ?_
 refine sV (aZ (v := .agg #[.string key, .slice (some ⟨g12, 0, none⟩) 1 1]) rfl (iE rfl rfl) (fun w => by kernel_rfl)) (k:=?_)
 refine alV zeroValue42 fun g13 => ?_
 refine stV 0 (.agg #[.string key, .slice (some ⟨g12, 0, none⟩) 1 1]) #[.string key, .slice (some ⟨g12, 0, none⟩) 1 1] sizeOf42 (k:=WR.done (WC.seq (WC.rs (mV (k:=sV (ldaV 0 [.string key, .slice (some ⟨g12, 0, none⟩) 1 1] isAgg42 sizeOf42) (k:=sV (aZ (v := .agg #[.string key, .slice (some ⟨g12, 0, none⟩) 1 1]) rfl (jN rfl) (fun w => by kernel_rfl)) (k:=sV (eN rfl rfl (fun w => mkif underlying98 w)) (k:=?_))))))))
 obtain ⟨hk14, h⟩ := ai h
 obtain ⟨hk15, h⟩ := ai h
 have ho16 : Own verT Γ 37 [(g12, .cells #[ii z6.1.s, ii z6.1.n, .slice Apast past.length cpast, .bool gone, .string val] 37 (0, 0))] (some ⟨g12, 0, none⟩) 1 [(⟨(⟨z6.1.s, z6.1.n⟩ : Dot), past, gone, val⟩ : Ver)] := Own.of_blockL (T := verT) (ys := [(⟨(⟨z6.1.s, z6.1.n⟩ : Dot), past, gone, val⟩ : Ver)]) [[ii z6.1.s, ii z6.1.n, .slice Apast past.length cpast, .bool gone, .string val]] rfl (show 1 ≤ lim by decide) ⟨⟨Apast, cpast, rfl, ⟨(dQ hk14), (dQ hk15), ⟨hpastc, hpast⟩, hval⟩⟩, trivial⟩
 have hc21 := ho16.capz
 refine seR 1 [_, _, _, _, _, _, _, _, _] fun Γ17 hl18 hr19 => ?_
 have hs20 := ho16.sl hl18 hr19
 refine foR [3, 3, 3, 3] hrow_2 [_, _, _, _, _, _] ?_
 obtain ⟨z23, hz24, h⟩ := bnd h
 refine ecV [0, 4] (caV call37) (fun w hp => jH (hq.mono hl18) (⟨(⟨key, [(⟨(⟨z6.1.s, z6.1.n⟩ : Dot), past, gone, val⟩ : Ver)]⟩ : Rec)⟩ : ar) ⟨hkey, ⟨hc21, hs20⟩⟩ true (hdk0.mono hl18) hp hz24) ?_
 rintro Γ25 _ _ hl26 ⟨row29, row31, rfl, rfl, hr30, hr32, hr33, _⟩
 refine cwV 53 [_, _, _, _, _, _] (aV (k:=WR.done (WC.rs (mV (k:=sV bZ (k:=WR.done ?_))))))
 refine ciV h (fun hb34 h => ?_) (fun hb34 h => ?_)
 ·
  refine WC.rs (sV (dP (v := .agg #[ii 0, ii 0, .slice none 0 0, .bool false, .string ByteArray.empty]) rfl (fun w => by kernel_rfl)) (k:=mV (k:=stV 5 (.agg #[ii 0, ii 0, .slice none 0 0, .bool false, .string ByteArray.empty]) #[ii 0, ii 0, .slice none 0 0, .bool false, .string ByteArray.empty] sizeOf37 (k:=aV (k:=WR.done ?_)))))
  refine WC.ret ?_
  intro w hw
  obtain rfl := Option.some.inj h
  subst hF
  exact ⟨[.agg #[ii 0, ii 0, .slice none 0 0, .bool false, .string ByteArray.empty], ii z23.2.2], (dp (i := 5) (us := [ii 0, ii 0, .slice none 0 0, .bool false, .string ByteArray.empty]) hw rfl isAgg37 sizeOf37 (by kernel_rfl) rfl (ji (by kernel_rfl) dk)), aO (is := [0, 0]) (by kernel_rfl) hw rfl ⟨row29, row31, none, 0, rfl, rfl, hr30, hr32, ⟨iV, iV, nilV, (show (ByteArray.empty : ByteArray).size ≤ lim by decide)⟩, hr33, trivial⟩⟩
 refine WC.skip (wc_ (WC.rs (mV (k:=?_))))
 obtain ⟨z35, hz36, h⟩ := bnd h
 refine ecV [0] (caV call11) (fun w hp => dc hr30 hp hz36) ?_
 rintro Γ37 _ _ hl38 ⟨A41, c42, rfl, rfl, hr43, _⟩
 refine cwV 60 [_, _, _, _, _, _] (mV (k:=sV exV (k:=sV exV (k:=?_))))
 refine alV zeroValue42 fun g44 => ?_
 refine stV 0 (.agg (Rec.cs A41 c42 z35.1).toArray) (Rec.cs A41 c42 z35.1).toArray sizeOf42 (k:=aV (k:=WR.done (WC.rs (sV (q_fl 1 df) (k:=sV (ldV 0 isAgg40) (k:=?_))))))
 obtain ⟨hk45, h⟩ := ai h
 refine sV (bb (i := 0) underlying40 sizeOf37 rfl rfl rfl (of_decide_eq_true hk45) (hr43.2.2.some_ (of_decide_eq_true hk45))) (k:=?_)
 obtain ⟨A46, c47, hx48⟩ := hr43.2.2.verT_at 0
 refine sV (gY (c := 0) (vs := (Ver.cs A46 c47 (gt z35.1.vers 0))) (hx48 (of_decide_eq_true hk45)).2 rfl isAgg37 sizeOf37 rfl rfl rfl) (k:=stV 6 (.agg (Ver.cs A46 c47 (gt z35.1.vers 0)).toArray) (Ver.cs A46 c47 (gt z35.1.vers 0)).toArray sizeOf37 (k:=aV (k:=WR.done ?_)))
 refine WC.ret ?_
 intro w hw
 obtain rfl := Option.some.inj h
 subst hF
 exact ⟨[.agg (Ver.cs A46 c47 (gt z35.1.vers 0)).toArray, ii 0], (dp (i := 6) (us := (Ver.cs A46 c47 (gt z35.1.vers 0))) hw rfl isAgg37 sizeOf37 (by kernel_rfl) rfl (ji (by kernel_rfl) dk)), aO (is := [1, 1]) (by kernel_rfl) hw rfl ⟨row29, row31, A46, c47, rfl, rfl, (hr30.mono hl38), (hr32.mono hl38), (hx48 (of_decide_eq_true hk45)).1, iV, trivial⟩⟩
abbrev pB (r : List UInt8) (U : List Rowb) (Γ : Gh) (v : Value) : Prop := ∃ (A0 : Option Addr), ∃ (c0 : Nat), ∃ (row0 : Rowb), v = .slice A0 r.length c0 ∧ U = [row0] ∧ Own av Γ 5 row0 A0 c0 r ∧ True
theorem pW {Ab : Option Addr} {cb : Nat} {rowb : Rowb} {b : List UInt8} (hb : Own av Γ 5 rowb Ab cb b) {Al : Option Addr} {cl : Nat} {l : List Int} (hl : Sl intT Γ Al l) (hlc : l.length ≤ cl) (hp : Pre [rowb] Γ w0) {r : List UInt8} (h : gQ b l = some r) : Calls Tryz.prog 147 #[.slice Ab b.length cb, .slice Al l.length cl] w0 (Outc Γ [rowb] w0 (pB r)) := by
 refine goV [4] func147 ntmps147 results147 hp fun F hF => ?_
 refine WC.rs (aV (k:=WR.done (WC.rs (mV (k:=mV (k:=sV (ab rfl underlying22) (k:=?_)))))))
 refine bsV #[ii (l.length : Int)] 2 fun g1 => ?_
 have ho2 : Own intT Γ 2 [(g1, .cells #[ii (l.length : Int)] 2 (0, 0))] (some ⟨g1, 0, none⟩) 1 [(l.length : Int)] := Own.of_blockL (T := intT) (ys := [(l.length : Int)]) [[ii (l.length : Int)]] rfl (show 1 ≤ lim by decide) ⟨⟨rfl, (lX hl.le)⟩, trivial⟩
 have hc7 := ho2.capz
 refine seR 0 [_, _] fun Γ3 hl4 hr5 => ?_
 have hs6 := ho2.sl hl4 hr5
 obtain ⟨z8, hz9, h⟩ := bnd h
 refine ecV [1] (caV call146) (fun w hp => gL (hb.mono hl4) hs6 hc7 hp hz9) ?_
 rintro Γ10 _ _ hl11 ⟨A14, c15, row16, rfl, rfl, hr17, _⟩
 refine cwV 11 [_, _] (aV (k:=WR.done (WC.seq (WC.rs (mV (k:=sV (ab rfl underlying22) (k:=mV (k:=?_))))))))
 refine WR.done (WC.block ?_)
 refine WC.forI h (fun (i26 : Nat) (b_20 : List UInt8) σ w => ∃ (Γ18 : Gh), ∃ (A21 : Option Addr), ∃ (c22 : Nat), ∃ (row23 : Rowb), slots σ [(0, .slice A21 b_20.length c22), (12, .slice Al l.length cl), (13, ii (l.length : Int)), (14, ii (i26 : Int))] ∧ CC F Γ18 [row23] w ∧ Gh.le Γ10 Γ18 ∧ Own av Γ18 5 row23 A21 c22 b_20 ∧ True) ?_ ?_
 ·
  intro w hw
  exact ⟨Γ10, A14, c15, row16, slK, (hw.on [0]), gR, hr17, trivial⟩
 rintro f25 i26 b_20 σ w hi27 hlt28 hge29 ⟨Γ18, A21, c22, row23, hsl, hw, hl19, ho24, -⟩
 refine slV hsl hw [_] ?_; clear hw hsl
 refine WC.rs (sV aS (k:=WR.done (WC.seq ?_)))
 refine coV (fun hb30 => ?_) (fun hb30 => ?_)
 ·
  have hl31 := ilt hb30
  have h := hlt28 hl31
  refine WC.skip (wc_ (WC.seq (WC.block (WC.rs (sV (bb (i := i26) underlying22 sizeOf3 rfl rfl rfl hl31 ((hl.mono ((hl4.trans hl11).trans hl19)).some_ hl31)) (k:=sV (q_ld (c := 0) (v := ii (gt l i26)) ((hl.mono ((hl4.trans hl11).trans hl19)).intT_at hl31).2 rfl isAgg3 rfl rfl) (k:=aV (k:=?_))))))))
  refine WR.done ?_
  refine WC.region ?_
  refine mV (k:=mV (k:=?_))
  refine bsV #[ii (gt l i26)] 2 fun g32 => ?_
  have ho33 : Own intT Γ18 2 [(g32, .cells #[ii (gt l i26)] 2 (0, 0))] (some ⟨g32, 0, none⟩) 1 [(gt l i26)] := Own.of_blockL (T := intT) (ys := [(gt l i26)]) [[ii (gt l i26)]] rfl (show 1 ≤ lim by decide) ⟨⟨rfl, ((hl.mono ((hl4.trans hl11).trans hl19)).intT_at hl31).1⟩, trivial⟩
  have hc38 := ho33.capz
  refine seR 0 [_, _] fun Γ34 hl35 hr36 => ?_
  have hs37 := ho33.sl hl35 hr36
  obtain ⟨z39, hz40, h⟩ := bnd h
  refine ecV [1] (caV call146) (fun w hp => gL (ho24.mono hl35) hs37 hc38 hp hz40) ?_
  rintro Γ41 _ _ hl42 ⟨A45, c46, row47, rfl, rfl, hr48, _⟩
  refine cwV 21 [_, _] (aV (k:=?_))
  refine WR.nil ?_
  change WC _ _ _ _ _ _
  refine WC.region ?_
  refine sV (aC rfl rfl rfl (aP hl31 (hl.mono ((hl4.trans hl11).trans hl19)).le)) (k:=mV (k:=?_))
  refine WR.nil ?_
  intro w hw
  exact ⟨hl31, z39, h, Γ41, A45, c46, row47, slK, (hw.on [0]), ((hl19.trans hl35).trans hl42), hr48, trivial⟩
 have h := hge29 (ige hb30)
 refine WC.exit ?_
 change WC _ _ _ _ _ _
 refine WC.rs (mV (k:=aV (k:=WR.done ?_)))
 exact WC.ret fun w hw => re_ r [0] h hF hw ⟨A21, c22, row23, rfl, rfl, ho24, trivial⟩
abbrev pD (r : List UInt8) (U : List Rowb) (Γ : Gh) (v : Value) : Prop := ∃ (A0 : Option Addr), ∃ (c0 : Nat), ∃ (row0 : Rowb), v = .slice A0 r.length c0 ∧ U = [row0] ∧ Own av Γ 5 row0 A0 c0 r ∧ True
theorem pH {Ax_0 : Option Addr} {cx_0 : Nat} {Ax_2 : Option Addr} {cx_2 : Nat} (x_ : aj) (hx_ : aj.fits Γ Ax_0 cx_0 Ax_2 cx_2 x_) (hp : Pre [] Γ w0) {r : List UInt8} (h : fc x_ = some r) : Calls Tryz.prog 89 #[.iface 101 (.agg (aj.cs Ax_0 cx_0 Ax_2 cx_2 x_).toArray)] w0 (Outc Γ [] w0 (pD r)) := by
 refine goV [2] func89 ntmps89 results89 hp fun F hF => ?_
 refine WC.rs (aV (k:=WR.done (WC.seq (WC.rs (mU (v := .iface 101 (.agg (aj.cs Ax_0 cx_0 Ax_2 cx_2 x_).toArray)) (k:=WR.done (WC.block ?_)))))))
 refine WC.rs (sV (aH underlying98 zeroValue98 rfl rfl rfl) (k:=sV exV (k:=sV exV (k:=WR.done ?_))))
 refine WC.cfk (b := false) (by kernel_rfl) rfl ?_
 refine WC.rs (sV (dv underlying101 rfl rfl) (k:=sV exV (k:=sV exV (k:=WR.done ?_))))
 refine WC.ctk (b := true) (by kernel_rfl) rfl ?_
 refine WC.rs ?_
 refine alV zeroValue101 fun g1 => ?_
 refine stV 0 (.agg (aj.cs Ax_0 cx_0 Ax_2 cx_2 x_).toArray) (aj.cs Ax_0 cx_0 Ax_2 cx_2 x_).toArray sizeOf101 (k:=WR.done (WC.seq ?_))
 refine leV fun h02 => ?_
 refine eD (CC F Γ [[(g1, .cells (aj.cs Ax_0 cx_0 Ax_2 cx_2 x_).toArray 101 (0, 0))]]) (bo_ [0] gR h02) fun k => ?_
 change WH _ _ _ _ (CC F Γ [_]) _ 9 _ _
 refine hV 2 k (q:=q_fl 0 mO) (k:=hV 3 k (q:=ldV 0 isAgg22) (k:=hV 5 k (q:=q_fl 1 jf) (k:=hV 6 k (q:=ldaV 0 (Rec.cs Ax_2 cx_2 x_.r) isAgg42 sizeOf42) (k:=wl_ 0 rfl ?_))))
 refine bsV #[ii 2] 2 fun g3 => ?_
 refine WR.nil (nxV (bo_ [1] gR h02) fun k => ?_)
 refine wl_ 1 rfl ?_
 have ho4 : Own intT Γ 2 [(g3, .cells #[ii 2] 2 (0, 0))] (some ⟨g3, 0, none⟩) 1 [2] := Own.of_blockL (T := intT) (ys := [2]) [[ii 2]] rfl (show 1 ≤ lim by decide) ⟨⟨rfl, iV⟩, trivial⟩
 have hc9 := ho4.capz
 refine seR 0 [_, _] fun Γ5 hl6 hr7 => ?_
 have hs8 := ho4.sl hl6 hr7
 refine WR.sub (fun w hw => hw.pad) ?_
 obtain ⟨z10, hz11, h⟩ := bnd h
 refine ecV [0] (caV call146) (fun w hp => gL (Own.nil av Γ5 5) hs8 hc9 hp hz11) ?_
 rintro Γ12 _ _ hl13 ⟨A16, c17, row18, rfl, rfl, hr19, _⟩
 refine cwV 25 [_, _, _] ?_
 refine WR.nil (nxV (bo_ [2] (hl6.trans hl13) h02) fun k => ?_)
 refine wl_ 4 rfl ?_
 obtain ⟨z20, hz21, h⟩ := bnd h
 refine ecV [0] (caV call147) (fun w hp => pW hr19 (hx_.1.2.mono (hl6.trans hl13)) hx_.1.1 hp hz21) ?_
 rintro Γ22 _ _ hl23 ⟨A26, c27, row28, rfl, rfl, hr29, _⟩
 refine cwV 28 [_, _, _] ?_
 refine WR.nil (nxV (bo_ [2] ((hl6.trans hl13).trans hl23) h02) fun k => ?_)
 refine wl_ 7 rfl ?_
 obtain ⟨z30, hz31, h⟩ := bnd h
 refine ecV [0] (caV call145) (fun w hp => od hr29 x_.r ⟨hx_.2.1, ⟨hx_.2.2.1, (hx_.2.2.2.mono ((hl6.trans hl13).trans hl23))⟩⟩ hp hz31) ?_
 rintro Γ32 _ _ hl33 ⟨A36, c37, row38, rfl, rfl, hr39, _⟩
 refine cwV 31 [_, _, _] ?_
 refine WR.nil (nxV (bo_ [2] (((hl6.trans hl13).trans hl23).trans hl33) h02) fun k => ?_)
 refine hV 8 k (q:=aoV) (k:=?_)
 refine WH.done (by kernel_rfl) ?_
 change WC _ _ _ _ _ _
 exact WC.ret fun w hw => re_ r [0] h hF hw ⟨A36, c37, row38, rfl, rfl, hr39, trivial⟩
abbrev lv (gq : Nat) (eq : Nat × Nat) (edk0 : Nat) (r : a6 × a7 × Int) (U : List Rowb) (Γ : Gh) (v : Value) : Prop := ∃ (rowq' : Rowb), ∃ (rowdk0' : Rowb), v = .int .i64 r.2.2 ∧ U = [rowq', rowdk0'] ∧ a6.ob eq Γ gq rowq' r.1 ∧ a7.ob edk0 Γ eq.2 rowdk0' r.2.1 ∧ I64 r.2.2 ∧ True
theorem lj {gq : Nat} {eq : Nat × Nat} {rowq : Rowb} {q : a6} (hq : a6.ob eq Γ gq rowq q) {Ax_0 : Option Addr} {cx_0 : Nat} {Ax_2 : Option Addr} {cx_2 : Nat} (x_ : aj) (hx_ : aj.fits Γ Ax_0 cx_0 Ax_2 cx_2 x_) (sync : Bool) {edk0 : Nat} {rowdk0 : Rowb} {dk0 : a7} (hdk0 : a7.ob edk0 Γ eq.2 rowdk0 dk0) (hp : Pre [rowq, rowdk0] Γ w0) {r : a6 × a7 × Int} (h : cp q x_ sync dk0 = some r) : Calls Tryz.prog 37 #[(pq gq), .iface 101 (.agg (aj.cs Ax_0 cx_0 Ax_2 cx_2 x_).toArray), .bool sync] w0 (Outc Γ [rowq, rowdk0] w0 (lv gq eq edk0 r)) := by
 refine goV [6] func37 ntmps37 results37 hp fun F hF => ?_
 refine WC.rs (aV (k:=WR.done (WC.seq (WC.rs (mV (k:=mU (v := .iface 101 (.agg (aj.cs Ax_0 cx_0 Ax_2 cx_2 x_).toArray)) (k:=?_)))))))
 obtain ⟨z1, hz2, h⟩ := bnd h
 refine vqV (caV call34) (fun w hw => gG (Γ := Gh.all w) (hq.mono hw.sat.le_all) (hw.ra 0 rfl) x_ (aj.fits_mono hx_ hw.sat.le_all) (Sat.all w) hz2) (k:=sV bu (k:=WR.done ?_))
 refine ciV h (fun hb3 h => ?_) (fun hb3 h => ?_)
 ·
  refine WC.rs (aV (k:=WR.done ?_))
  exact WC.ret fun w hw => re_ r [0, 0] h hF hw ⟨rowq, rowdk0, rfl, rfl, hq, hdk0, iV, trivial⟩
 refine WC.skip (wc_ (WC.rs (mU (v := .iface 101 (.agg (aj.cs Ax_0 cx_0 Ax_2 cx_2 x_).toArray)) (k:=?_))))
 obtain ⟨z4, hz5, h⟩ := bnd h
 refine ecV [] (caV call89) (fun w hp => pH x_ hx_ hp hz5) ?_
 rintro Γ6 _ _ hl7 ⟨A10, c11, row12, rfl, rfl, hr13, _⟩
 refine cwV 16 [_, _, _] (aV (k:=WR.done (WC.seq (WC.rs (mV (k:=sV nlV (k:=sV (q_fl 6 jy) (k:=?_))))))))
 obtain ⟨A2_14, c2_14, A5_14, c5_14, g6_14, r6_14, A7_14, c7_14, A8_14, A9_14, c9_14, r9_14, m11_14, r11_14, A12_14, c12_14, hrow_14, ho0_14, ho1_14, ho2_14, ho3_14, ho4_14, ho5_14, ho6_14, ho7_14, ho8_14, ho9_14, ho10_14, ho11_14, ho12_14, ho13_14, ho14_14, ho15_14, ho16_14, -⟩ := (hq.mono hl7)
 refine ufR 1 hrow_14 [_, _, _, _, _, _] ?_
 refine sV (ldV 0 isAgg75) (k:=mV (k:=?_))
 have hc19 := hr13.capz
 refine seR 4 [_, _, _, _, _, _] fun Γ15 hl16 hr17 => ?_
 have hs18 := hr13.sl hl16 hr17
 obtain ⟨z20, hz21, h⟩ := bnd h
 refine ecV [1, 4] (caV call90) (fun w hp => eK (ho8_14.mono hl16) hs18 hc19 (hdk0.mono (hl7.trans hl16)) hp hz21) ?_
 rintro Γ22 _ _ hl23 ⟨row26, row28, rfl, rfl, hr27, hr29, hr30, _⟩
 refine cwV 22 [_, _, _, _, _, _] (aV (k:=WR.done (WC.rs (mV (k:=sV bZ (k:=WR.done ?_))))))
 refine ciV h (fun hb31 h => ?_) (fun hb31 h => ?_)
 ·
  refine WC.rs (mV (k:=aV (k:=WR.done ?_)))
  refine WC.ret ?_
  intro w hw
  obtain ⟨row_32, hrow_32, hob_32⟩ : ∃ rw : Rowb, rw = ([[(gq, .cells #[ii q.c_self, ii q.c_sites, .slice A2_14 q.c_links.length c2_14, ii q.c_cap, ii q.c_base, .slice A5_14 q.c_members.length c5_14, (pq g6_14), .slice A7_14 q.applied.length c7_14, .pointer A8_14, .slice A9_14 q.list.length c9_14, ii q.next, .map (some m11_14), .slice A12_14 q.members.length c12_14] eq.1 (0, 0))], row26, r9_14, r11_14] : List Rowb).flatten ∧ a6.ob eq Γ22 gq rw (⟨q.c_self, q.c_sites, q.c_links, q.c_cap, q.c_base, q.c_members, z20.1, q.applied, q.under, q.list, q.next, q.gaps, q.members⟩ : a6) := ⟨_, rfl, A2_14, c2_14, A5_14, c5_14, g6_14, row26, A7_14, c7_14, A8_14, A9_14, c9_14, r9_14, m11_14, r11_14, A12_14, c12_14, rfl, ho0_14, ho1_14, ho2_14, (ho3_14.mono (hl16.trans hl23)), ho4_14, ho5_14, ho6_14, (ho7_14.mono (hl16.trans hl23)), hr27, ho9_14, (ho10_14.mono (hl16.trans hl23)), (ho11_14.mono (hl16.trans hl23)), (ho12_14.mono (hl16.trans hl23)), ho13_14, (ho14_14.mono (hl16.trans hl23)), ho15_14, (ho16_14.mono (hl16.trans hl23)), trivial⟩
  have hw := hw.fold (is := [2, 0, 1, 1]) rfl hrow_32
  obtain rfl := Option.some.inj h
  subst hF
  exact aO (is := [0, 0]) (by kernel_rfl) hw rfl ⟨row_32, row28, rfl, rfl, hob_32, hr29, hr30, trivial⟩
 refine WC.skip (wc_ ?_)
 obtain ⟨row_33, hrow_33, hob_33⟩ : ∃ rw : Rowb, rw = ([[(gq, .cells #[ii q.c_self, ii q.c_sites, .slice A2_14 q.c_links.length c2_14, ii q.c_cap, ii q.c_base, .slice A5_14 q.c_members.length c5_14, (pq g6_14), .slice A7_14 q.applied.length c7_14, .pointer A8_14, .slice A9_14 q.list.length c9_14, ii q.next, .map (some m11_14), .slice A12_14 q.members.length c12_14] eq.1 (0, 0))], row26, r9_14, r11_14] : List Rowb).flatten ∧ a6.ob eq Γ22 gq rw (⟨q.c_self, q.c_sites, q.c_links, q.c_cap, q.c_base, q.c_members, z20.1, q.applied, q.under, q.list, q.next, q.gaps, q.members⟩ : a6) := ⟨_, rfl, A2_14, c2_14, A5_14, c5_14, g6_14, row26, A7_14, c7_14, A8_14, A9_14, c9_14, r9_14, m11_14, r11_14, A12_14, c12_14, rfl, ho0_14, ho1_14, ho2_14, (ho3_14.mono (hl16.trans hl23)), ho4_14, ho5_14, ho6_14, (ho7_14.mono (hl16.trans hl23)), hr27, ho9_14, (ho10_14.mono (hl16.trans hl23)), (ho11_14.mono (hl16.trans hl23)), (ho12_14.mono (hl16.trans hl23)), ho13_14, (ho14_14.mono (hl16.trans hl23)), ho15_14, (ho16_14.mono (hl16.trans hl23)), trivial⟩
 refine foC [2, 0, 1, 1] hrow_33 [_, _, _] ?_
 refine WC.cut (fun σ w => ∃ (o36 : a7), ∃ (Γ34 : Gh), ∃ (row37 : Rowb), cz q z4 z20 o36 = some r ∧ slots σ [(0, (pq gq)), (7, .slice A10 z4.length c11)] ∧ CC F Γ34 [row_33, row37] w ∧ Gh.le Γ22 Γ34 ∧ a7.ob edk0 Γ34 eq.2 row37 o36 ∧ True) ?_ ?_
 ·
  refine WC.rs (mV (k:=WR.done ?_))
  refine ciV h (fun hb39 h => ?_) (fun hb39 h => ?_)
  ·
   refine WC.region ?_
   refine mV (k:=sV nlV (k:=sV (q_fl 6 jy) (k:=?_)))
   obtain ⟨A2_40, c2_40, A5_40, c5_40, g6_40, r6_40, A7_40, c7_40, A8_40, A9_40, c9_40, r9_40, m11_40, r11_40, A12_40, c12_40, hrow_40, ho0_40, ho1_40, ho2_40, ho3_40, ho4_40, ho5_40, ho6_40, ho7_40, ho8_40, ho9_40, ho10_40, ho11_40, ho12_40, ho13_40, ho14_40, ho15_40, ho16_40, -⟩ := id hob_33
   refine ufR 0 hrow_40 [_, _, _, _, _, _] ?_
   refine sV (ldV 0 isAgg75) (k:=?_)
   obtain ⟨z41, hz42, h⟩ := bnd h
   refine ecV [1, 3] (caV call91) (fun w hp => fX ho8_40 hr29 hp hz42) ?_
   rintro Γ43 _ _ hl44 ⟨row47, rfl, rfl, hr48, _⟩
   refine cwV 31 [_, _, _, _, _, _] ?_
   refine WR.nil ?_
   intro w hw
   have hw := hw.fold (is := [2, 0, 1, 1]) rfl hrow_40
   exact ⟨z41, Γ43, row47, h, slK, (hw.on [0, 0]), hl44, hr48, trivial⟩
  refine WC.skip ?_
  intro w hw
  exact ⟨z20.2.1, Γ22, row28, h, slK, (hw.on [0, 0]), gR, hr29, trivial⟩
 rintro σ w ⟨o36, Γ34, row37, h, hsl, hw, hl35, ho38, -⟩
 refine slV hsl hw [_, _] ?_; clear hw hsl
 refine WC.rs (mV (k:=?_))
 obtain ⟨z50, hz51, h⟩ := bnd h
 refine ecV [] (caV call33) (fun w hp => gO (hs18.mono (hl23.trans hl35)) hc19 hp hz51) ?_
 rintro Γ52 _ _ hl53 (⟨ho56, rfl, rfl, _⟩ | ⟨o57, ho56, A58, c59, rfl, rfl, hr60, _⟩ | ⟨o57, ho56, A61, c62, A63, c64, rfl, rfl, hr65, _⟩ | ⟨o57, ho56, rfl, rfl, hr66, _⟩ | ⟨o57, ho56, rfl, rfl, hr67, _⟩)
 ·
  have h := am.e_nil ho56 h
  refine cwV 34 [_, _] (mV (k:=sV exV (k:=sV exV (k:=aU (v := .nilIface) (k:=aV (k:=WR.done (WC.rs ?_)))))))
  refine mV (k:=mU (v := .nilIface) (k:=?_))
  obtain ⟨z68, hz69, h⟩ := bnd h
  refine ecV [0] (caV call35) (fun w hp => cN (hob_33.mono (hl35.trans hl53)) hp hz69) ?_
  rintro Γ70 _ _ hl71 ⟨rfl, rfl, _⟩
  refine cwV 39 [_, _] (WR.done (WC.rs (aV (k:=WR.done ?_))))
  exact WC.ret fun w hw => re_ r [0, 0] h hF hw ⟨row_33, row37, rfl, rfl, (hob_33.mono ((hl35.trans hl53).trans hl71)), (ho38.mono (hl53.trans hl71)), iV, trivial⟩
 ·
  have h := am.e_queue_issue ho56 h
  refine cwV 34 [_, _] (mV (k:=sV exV (k:=sV exV (k:=aU (v := .iface 98 (.agg (Rec.cs A58 c59 o57.r).toArray)) (k:=aV (k:=WR.done (WC.rs ?_)))))))
  refine mV (k:=mU (v := .iface 98 (.agg (Rec.cs A58 c59 o57.r).toArray)) (k:=?_))
  obtain ⟨z74, hz75, h⟩ := bnd h
  refine ecV [0] (caV call35) (fun w hp => bU (hob_33.mono (hl35.trans hl53)) o57 hr60 hp hz75) ?_
  rintro Γ76 _ _ hl77 ⟨row80, rfl, rfl, hr81, _⟩
  refine cwV 39 [_, _] (WR.done (WC.rs (aV (k:=WR.done ?_))))
  exact WC.ret fun w hw => re_ r [0, 0] h hF hw ⟨row80, row37, rfl, rfl, hr81, (ho38.mono (hl53.trans hl77)), iV, trivial⟩
 ·
  have h := am.e_queue_did ho56 h
  refine cwV 34 [_, _] (mV (k:=sV exV (k:=sV exV (k:=aU (v := .iface 101 (.agg (aj.cs A61 c62 A63 c64 o57).toArray)) (k:=aV (k:=WR.done (WC.rs ?_)))))))
  refine mV (k:=mU (v := .iface 101 (.agg (aj.cs A61 c62 A63 c64 o57).toArray)) (k:=?_))
  obtain ⟨z82, hz83, h⟩ := bnd h
  refine ecV [0] (caV call35) (fun w hp => bN (hob_33.mono (hl35.trans hl53)) o57 hr65 hp hz83) ?_
  rintro Γ84 _ _ hl85 ⟨row88, rfl, rfl, hr89, _⟩
  refine cwV 39 [_, _] (WR.done (WC.rs (aV (k:=WR.done ?_))))
  exact WC.ret fun w hw => re_ r [0, 0] h hF hw ⟨row88, row37, rfl, rfl, hr89, (ho38.mono (hl53.trans hl85)), iV, trivial⟩
 ·
  have h := am.e_queue_ack ho56 h
  refine cwV 34 [_, _] (mV (k:=sV exV (k:=sV exV (k:=aU (v := .iface 107 (.agg (ak.cs o57).toArray)) (k:=aV (k:=WR.done (WC.rs ?_)))))))
  refine mV (k:=mU (v := .iface 107 (.agg (ak.cs o57).toArray)) (k:=?_))
  obtain ⟨z90, hz91, h⟩ := bnd h
  refine ecV [0] (caV call35) (fun w hp => bT (hob_33.mono (hl35.trans hl53)) o57 hr66 hp hz91) ?_
  rintro Γ92 _ _ hl93 ⟨row96, rfl, rfl, hr97, _⟩
  refine cwV 39 [_, _] (WR.done (WC.rs (aV (k:=WR.done ?_))))
  exact WC.ret fun w hw => re_ r [0, 0] h hF hw ⟨row96, row37, rfl, rfl, hr97, (ho38.mono (hl53.trans hl93)), iV, trivial⟩
 have h := am.e_queue_clear ho56 h
 refine cwV 34 [_, _] (mV (k:=sV exV (k:=sV exV (k:=aU (v := .iface 118 (.agg #[ii o57.sink])) (k:=aV (k:=WR.done (WC.rs ?_)))))))
 refine mV (k:=mU (v := .iface 118 (.agg #[ii o57.sink])) (k:=?_))
 obtain ⟨z98, hz99, h⟩ := bnd h
 refine ecV [0] (caV call35) (fun w hp => bS (hob_33.mono (hl35.trans hl53)) o57 hr67 hp hz99) ?_
 rintro Γ100 _ _ hl101 ⟨row104, rfl, rfl, hr105, _⟩
 refine cwV 39 [_, _] (WR.done (WC.rs (aV (k:=WR.done ?_))))
 exact WC.ret fun w hw => re_ r [0, 0] h hF hw ⟨row104, row37, rfl, rfl, hr105, (ho38.mono (hl53.trans hl101)), iV, trivial⟩
abbrev oN (gq : Nat) (eq : Nat × Nat) (edk0 : Nat) (r : a6 × a7 × Int) (U : List Rowb) (Γ : Gh) (v : Value) : Prop := ∃ (rowq' : Rowb), ∃ (rowdk0' : Rowb), v = .int .i64 r.2.2 ∧ U = [rowq', rowdk0'] ∧ a6.ob eq Γ gq rowq' r.1 ∧ a7.ob edk0 Γ eq.2 rowdk0' r.2.1 ∧ I64 r.2.2 ∧ True
theorem iT {gq : Nat} {eq : Nat × Nat} {rowq : Rowb} {q : a6} (hq : a6.ob eq Γ gq rowq q) {Ar_1 : Option Addr} {cr_1 : Nat} (r_ : Rec) (hr_ : Rec.fits Γ Ar_1 cr_1 r_) {Aroute : Option Addr} {croute : Nat} {route : List Int} (hroute : Sl intT Γ Aroute route) (hroutec : route.length ≤ croute) {edk0 : Nat} {rowdk0 : Rowb} {dk0 : a7} (hdk0 : a7.ob edk0 Γ eq.2 rowdk0 dk0) (hp : Pre [rowq, rowdk0] Γ w0) {r : a6 × a7 × Int} (h : d7 q r_ route dk0 = some r) : Calls Tryz.prog 12 #[(pq gq), .agg (Rec.cs Ar_1 cr_1 r_).toArray, .slice Aroute route.length croute] w0 (Outc Γ [rowq, rowdk0] w0 (oN gq eq edk0 r)) := by
 refine goV [6] func12 ntmps12 results12 hp fun F hF => ?_
 refine WC.rs ?_
 refine bxV (v := .agg (Rec.cs Ar_1 cr_1 r_).toArray) fun g1 => ?_
 refine aV (k:=WR.done (WC.rs (mV (k:=mV (k:=sV (ldaV 0 (Rec.cs Ar_1 cr_1 r_) isAgg42 sizeOf42) (k:=sV (aZ (v := .agg #[.slice Aroute route.length croute, .string r_.key, .slice Ar_1 r_.vers.length cr_1]) rfl (iE rfl rfl) (fun w => by kernel_rfl)) (k:=sV (eN rfl rfl (fun w => mkif underlying101 w)) (k:=?_))))))))
 obtain ⟨z2, hz3, h⟩ := bnd h
 refine ecV [1, 1] (caV call37) (fun w hp => lj hq (⟨route, (⟨r_.key, r_.vers⟩ : Rec)⟩ : aj) ⟨⟨hroutec, hroute⟩, hr_.1, ⟨hr_.2.1, hr_.2.2⟩⟩ true hdk0 hp hz3) ?_
 rintro Γ4 _ _ hl5 ⟨row8, row10, rfl, rfl, hr9, hr11, hr12, _⟩
 refine cwV 12 [_, _, _] (aV (k:=WR.done ?_))
 exact WC.ret fun w hw => re_ r [0, 0] h hF hw ⟨row8, row10, rfl, rfl, hr9, hr11, hr12, trivial⟩
abbrev nL (gq : Nat) (eq : Nat × Nat) (rowq : Rowb) (r : List aq) (U : List Rowb) (Γ : Gh) (v : Value) : Prop := ∃ (A0 : Option Addr), ∃ (c0 : Nat), ∃ (row0 : Rowb), v = .slice A0 r.length c0 ∧ U = [rowq, row0] ∧ Own eC Γ 52 row0 A0 c0 r ∧ True
theorem kn {gq : Nat} {eq : Nat × Nat} {rowq : Rowb} {q : a6} (hq : a6.ob eq Γ gq rowq q) (sink : Int) (hsink : I64 sink) (n : Int) (hn : I64 n) (hp : Pre [rowq] Γ w0) {r : List aq} (h : dG q sink n = some r) : Calls Tryz.prog 15 #[(pq gq), ii sink, ii n] w0 (Outc Γ [rowq] w0 (nL gq eq rowq r)) := by
 refine goV [6] func15 ntmps15 results15 hp fun F hF => ?_
 refine WC.rs (aV (k:=WR.done (WC.rs (aV (k:=WR.done (WC.seq (WC.rs ?_)))))))
 refine mV (k:=sV nlV (k:=sV (q_fl 9 dD) (k:=?_)))
 obtain ⟨A2_1, c2_1, A5_1, c5_1, g6_1, r6_1, A7_1, c7_1, A8_1, A9_1, c9_1, r9_1, m11_1, r11_1, A12_1, c12_1, hrow_1, ho0_1, ho1_1, ho2_1, ho3_1, ho4_1, ho5_1, ho6_1, ho7_1, ho8_1, ho9_1, ho10_1, ho11_1, ho12_1, ho13_1, ho14_1, ho15_1, ho16_1, -⟩ := id hq
 refine ufR 0 hrow_1 [_, _, _, _] ?_
 refine sV (ldV 0 isAgg82) (k:=?_)
 have hlen2 : q.list.length ≤ lim := ho12_1.le
 refine sV (ab rfl underlying82) (k:=mV (k:=WR.done (WC.block ?_)))
 refine WC.forU h (fun (i11 : Nat) (out_5 : List aq) σ w => ∃ (Γ3 : Gh), ∃ (A6 : Option Addr), ∃ (c7 : Nat), ∃ (row8 : Rowb), slots σ [(1, ii sink), (2, ii n), (7, .slice A6 out_5.length c7), (13, .slice A9_1 q.list.length c9_1), (14, ii (q.list.length : Int)), (15, ii (i11 : Int))] ∧ CC F Γ3 [row8, [(gq, .cells #[ii q.c_self, ii q.c_sites, .slice A2_1 q.c_links.length c2_1, ii q.c_cap, ii q.c_base, .slice A5_1 q.c_members.length c5_1, (pq g6_1), .slice A7_1 q.applied.length c7_1, .pointer A8_1, .slice A9_1 q.list.length c9_1, ii q.next, .map (some m11_1), .slice A12_1 q.members.length c12_1] eq.1 (0, 0))], r6_1, r9_1, r11_1] w ∧ Gh.le Γ Γ3 ∧ Own eC Γ3 52 row8 A6 c7 out_5 ∧ True) ?_ ?_
 ·
  intro w hw
  have hw := hw.pad
  exact ⟨Γ, none, 0, [], slK, hw, gR, (Own.nil eC _ 52), trivial⟩
 rintro f10 i11 out_5 σ w hi12 hlt13 hge14 ⟨Γ3, A6, c7, row8, hsl, hw, hl4, ho9, -⟩
 refine slV hsl hw [_, _, _, _, _] ?_; clear hw hsl
 refine WC.rs (sV aS (k:=WR.done (WC.seq ?_)))
 refine coV (fun hb15 => ?_) (fun hb15 => ?_)
 ·
  have hl16 := ilt hb15
  have h := hlt13 hl16
  refine WC.skip (wc_ ?_)
  refine WC.cut (fun σ w => ∃ (out_19 : List aq), ∃ (Γ17 : Gh), ∃ (A20 : Option Addr), ∃ (c21 : Nat), ∃ (row22 : Rowb), dO f10 out_19 = some r ∧ slots σ [(1, ii sink), (2, ii n), (7, .slice A20 out_19.length c21), (13, .slice A9_1 q.list.length c9_1), (14, ii (q.list.length : Int)), (15, ii (i11 : Int))] ∧ CC F Γ17 [row22, [(gq, .cells #[ii q.c_self, ii q.c_sites, .slice A2_1 q.c_links.length c2_1, ii q.c_cap, ii q.c_base, .slice A5_1 q.c_members.length c5_1, (pq g6_1), .slice A7_1 q.applied.length c7_1, .pointer A8_1, .slice A9_1 q.list.length c9_1, ii q.next, .map (some m11_1), .slice A12_1 q.members.length c12_1] eq.1 (0, 0))], r6_1, r9_1, r11_1] w ∧ Gh.le Γ3 Γ17 ∧ Own eC Γ17 52 row22 A20 c21 out_19 ∧ True) ?_ ?_
  ·
   refine WC.block (WC.rs (sV (bb (i := i11) underlying82 sizeOf104 rfl rfl rfl hl16 ((ho12_1.mono hl4).some_ hl16)) (k:=?_)))
   obtain ⟨g_24, rL_24, rA_24, rM_24, rB_24, cs_24, hrow_24, hrd_24, hvc_24, hsub_24, hm_24, hback_24⟩ := LM.part (ho12_1.mono hl4) hl16
   obtain ⟨A_24_2, c_24_2, A_24_3, c_24_3, rfl, hrd_24⟩ := hrd_24
   have hs1_24 : ∀ p ∈ rL_24, p ∈ r9_1 := fun p hp => by rw [hrow_24]; exact List.mem_append.2 (.inl (hsub_24 p hp))
   have hs2_24 : ∀ p ∈ rM_24, p ∈ r9_1 := fun p hp => by rw [hrow_24]; exact List.mem_append.2 (.inr (List.mem_append.2 (.inl hp)))
   refine sV (vC (c := 0) (vs := [ii (gt q.list i11).entry.seq, .string (gt q.list i11).entry.rec_.key, .slice A_24_2 ((gt q.list i11).entry.rec_.vers).length c_24_2, .slice A_24_3 ((gt q.list i11).entry.route).length c_24_3, .map (some g_24)]) (i := 3) rfl hs1_24 hvc_24 rfl isAgg104 sizeOf104 rfl rfl) (k:=?_)
   refine alV zeroValue104 fun g25 => ?_
   refine stV 0 (.agg #[ii (gt q.list i11).entry.seq, .string (gt q.list i11).entry.rec_.key, .slice A_24_2 ((gt q.list i11).entry.rec_.vers).length c_24_2, .slice A_24_3 ((gt q.list i11).entry.route).length c_24_3, .map (some g_24)]) #[ii (gt q.list i11).entry.seq, .string (gt q.list i11).entry.rec_.key, .slice A_24_2 ((gt q.list i11).entry.rec_.vers).length c_24_2, .slice A_24_3 ((gt q.list i11).entry.route).length c_24_3, .map (some g_24)] sizeOf104 (k:=WR.done (WC.rs (mV (k:=sV (ab rfl underlying49) (k:=mV (k:=sV aS (k:=mV (k:=?_))))))))
   refine vG1 (h:=fun hg26 => q_fl 4 k9) (k:=vG1 (h:=fun hg27 => ldV 0 isAgg80 (hx:=grV hg27)) (k:=vG1 (h:=fun hg28 => moV) (k:=?_)))
   obtain ⟨v30, hv31, hat32⟩ := MapO.look hm_24 sink (z := .bool false) (zx := false) rfl
   obtain rfl : v30 = _ := List.cons.inj hv31 |>.1
   refine vG1 (h:=fun hg29 => rj (v := .bool ((mget sink ((gt q.list i11).want)).getD false)) (fun w hw p hp => hw.at_ (i := 4) rfl (hs2_24 p hp)) hat32 rfl underlying80 zeroValue4 (grV hg29) (grV hg29)) (k:=sV pkA (k:=WR.done ?_))
   refine ciV h (fun hb33 h => ?_) (fun hb33 h => ?_)
   ·
    refine leV fun h034 => ?_
    refine eD (CC F Γ3 [[(g25, .cells #[ii (gt q.list i11).entry.seq, .string (gt q.list i11).entry.rec_.key, .slice A_24_2 ((gt q.list i11).entry.rec_.vers).length c_24_2, .slice A_24_3 ((gt q.list i11).entry.route).length c_24_3, .map (some g_24)] 104 (0, 0))], [(gq, .cells #[ii q.c_self, ii q.c_sites, .slice A2_1 q.c_links.length c2_1, ii q.c_cap, ii q.c_base, .slice A5_1 q.c_members.length c5_1, (pq g6_1), .slice A7_1 q.applied.length c7_1, .pointer A8_1, .slice A9_1 q.list.length c9_1, ii q.next, .map (some m11_1), .slice A12_1 q.members.length c12_1] eq.1 (0, 0))], r6_1, r11_1]) (bo_ [0, 1, 1, 2] gR h034) fun k => ?_
    change WH _ _ _ _ (CC F Γ3 [_, _, _, _, _, _]) _ 16 _ _
    refine hV 0 k (q:=moV) (k:=hV 1 k (q:=q_fl 0 lc) (k:=hV 2 k (q:=q_fl 0 oc) (k:=hV 3 k (q:=ldV 0 isAgg2) (k:=hV 4 k (q:=q_fl 0 lc) (k:=hV 5 k (q:=q_fl 1 yS) (k:=hV 6 k (q:=ldaV 0 [.string (gt q.list i11).entry.rec_.key, .slice A_24_2 ((gt q.list i11).entry.rec_.vers).length c_24_2] isAgg42 sizeOf42) (k:=hV 8 k (q:=q_fl 0 lc) (k:=?_))))))))
    refine hV 9 k (q:=q_fl 3 yV) (k:=hV 10 k (q:=ldV 0 isAgg22) (k:=wl_ 7 rfl ?_))
    obtain ⟨z35, hz36, h⟩ := bnd h
    refine ecV [] (caV call38) (fun w hp => qb ((gt q.list i11).entry.rec_) ⟨hrd_24.2.1, ⟨hrd_24.2.2.1.1, hrd_24.2.2.1.2⟩⟩ hp hz36) ?_
    rintro Γ37 _ _ hl38 ⟨A41, c42, rfl, rfl, hr43, _⟩
    refine cwV 36 [_, _, _, _, _, _] ?_
    refine WR.nil (nxV (bo_ [0, 1, 1, 2] hl38 h034) fun k => ?_)
    refine wl_ 11 rfl ?_
    obtain ⟨z44, hz45, h⟩ := bnd h
    refine ecV [] (caV call32) (fun w hp => dl (hrd_24.2.2.2.2.mono hl38) hrd_24.2.2.2.1 hp hz45) ?_
    rintro Γ46 _ _ hl47 ⟨A50, c51, row52, rfl, rfl, hr53, _⟩
    refine cwV 40 [_, _, _, _, _, _, _] ?_
    refine WR.nil (nxV (bo_ [1, 2, 2, 3] (hl38.trans hl47) h034) fun k => ?_)
    refine hV 12 k (q:=aZ (v := .agg #[ii (gt q.list i11).entry.seq, .string z35.key, .slice A41 z35.vers.length c42, .slice A50 z44.length c51]) rfl (rH rfl rfl rfl) (fun w => by kernel_rfl)) (k:=wl_ 13 rfl ?_)
    have hc58 := hr53.capz
    refine seR 0 [_, _, _, _, _, _, _] fun Γ54 hl55 hr56 => ?_
    have hs57 := hr53.sl hl55 hr56
    refine bsV #[ii (gt q.list i11).entry.seq, .string z35.key, .slice A41 z35.vers.length c42, .slice A50 z44.length c51] 52 fun g59 => ?_
    refine WR.nil (nxV (bo_ [2, 3, 3, 4] ((hl38.trans hl47).trans hl55) h034) fun k => ?_)
    refine wl_ 14 rfl ?_
    obtain ⟨hk60, h⟩ := ai h
    refine apV 3 [(⟨(gt q.list i11).entry.seq, (⟨z35.key, z35.vers⟩ : Rec), z44⟩ : aq)] zN (ho9.mono ((hl38.trans hl47).trans hl55)) (of_decide_eq_true hk60) (fun w hw => dR (i := 0) rfl (by exact ⟨A41, c42, A50, c51, rfl, ⟨hrd_24.1, hr43.1, ⟨hr43.2.1, (hr43.2.2.mono (hl47.trans hl55))⟩, ⟨hc58, hs57⟩⟩⟩) hw) ?_
    intro row61 A62 c63 ho64
    refine WR.nil (nxV (bo_ [2, 3, 3, 4] ((hl38.trans hl47).trans hl55) h034) fun k => ?_)
    refine hV 15 k (q:=aoV) (k:=?_)
    refine WH.done (by kernel_rfl) ?_
    intro w hw
    exact ⟨(out_5 ++ [(⟨(gt q.list i11).entry.seq, (⟨z35.key, z35.vers⟩ : Rec), z44⟩ : aq)]), Γ54, A62, c63, row61, h, slK, (hw.on [3, 3, 3, 3, 3]), ((hl38.trans hl47).trans hl55), ho64, trivial⟩
   refine WC.skip ?_
   intro w hw
   exact ⟨out_5, Γ3, A6, c7, row8, h, slK, (hw.on [1, 1, 1, 1, 1]), gR, ho9, trivial⟩
  rintro σ w ⟨out_19, Γ17, A20, c21, row22, h, hsl, hw, hl18, ho23, -⟩
  refine slV hsl hw [_, _, _, _, _] ?_; clear hw hsl
  refine WC.region ?_
  refine sV (aC rfl rfl rfl (aP hl16 hlen2)) (k:=mV (k:=?_))
  refine WR.nil ?_
  intro w hw
  exact ⟨hl16, out_19, h, Γ17, A20, c21, row22, slK, hw, (hl4.trans hl18), ho23, trivial⟩
 have h := hge14 (ige hb15)
 refine WC.exit ?_
 change WC _ _ _ _ _ _
 refine WC.rs (mV (k:=aV (k:=WR.done ?_)))
 refine WC.ret ?_
 intro w hw
 have hw := hw.fold (is := [1, 1, 1, 1]) rfl hrow_1
 exact re_ r [0, 0] h hF hw ⟨A6, c7, row8, rfl, rfl, ho9, trivial⟩
abbrev nw (gq : Nat) (eq : Nat × Nat) (rowq : Rowb) (r : List Int) (U : List Rowb) (Γ : Gh) (v : Value) : Prop := ∃ (A0 : Option Addr), ∃ (c0 : Nat), ∃ (row0 : Rowb), v = .slice A0 r.length c0 ∧ U = [rowq, row0] ∧ Own intT Γ 3 row0 A0 c0 r ∧ True
theorem fu {gq : Nat} {eq : Nat × Nat} {rowq : Rowb} {q : a6} (hq : a6.ob eq Γ gq rowq q) (hp : Pre [rowq] Γ w0) {r : List Int} (h : bL q = some r) : Calls Tryz.prog 24 #[(pq gq)] w0 (Outc Γ [rowq] w0 (nw gq eq rowq r)) := by
 refine goV [2] func24 ntmps24 results24 hp fun F hF => ?_
 refine WC.rs (aV (k:=WR.done (WC.rs (mV (k:=sV nlV (k:=sV (q_fl 11 pc) (k:=?_)))))))
 obtain ⟨A2_1, c2_1, A5_1, c5_1, g6_1, r6_1, A7_1, c7_1, A8_1, A9_1, c9_1, r9_1, m11_1, r11_1, A12_1, c12_1, hrow_1, ho0_1, ho1_1, ho2_1, ho3_1, ho4_1, ho5_1, ho6_1, ho7_1, ho8_1, ho9_1, ho10_1, ho11_1, ho12_1, ho13_1, ho14_1, ho15_1, ho16_1, -⟩ := id hq
 refine ufR 0 hrow_1 [_, _, _, _] ?_
 refine sV (ldV 0 isAgg80) (k:=?_)
 refine zr (ρ := nC) xQ (mb := some m11_1) rfl rfl (caV call44) ?_
 intro g2
 refine cwV 7 [_, _, _, _, _] ?_
 obtain ⟨hk3, h⟩ := ai h
 refine ecV [0, 3] (caV call43) (fun w hp => zF ho14_1 (of_decide_eq_true hk3) hp) ?_
 rintro Γ4 _ _ hl5 ⟨A8, c9, row10, rfl, rfl, ho11⟩
 refine cwV 8 [_, _, _, _, _, _] (aV (k:=WR.done ?_))
 refine WC.ret ?_
 intro w hw
 have hw := hw.fold (is := [3, 3, 3, 1]) rfl hrow_1
 exact re_ r [0, 1] h hF hw ⟨A8, c9, row10, rfl, rfl, ho11, trivial⟩
abbrev py (r : List UInt8) (U : List Rowb) (Γ : Gh) (v : Value) : Prop := ∃ (A0 : Option Addr), ∃ (c0 : Nat), ∃ (row0 : Rowb), v = .slice A0 r.length c0 ∧ U = [row0] ∧ Own av Γ 5 row0 A0 c0 r ∧ True
theorem pF (x_ : ak) (hx_ : ak.fits Γ  x_) (hp : Pre [] Γ w0) {r : List UInt8} (h : eY x_ = some r) : Calls Tryz.prog 89 #[.iface 107 (.agg (ak.cs x_).toArray)] w0 (Outc Γ [] w0 (py r)) := by
 refine goV [2] func89 ntmps89 results89 hp fun F hF => ?_
 refine WC.rs (aV (k:=WR.done (WC.seq (WC.rs (mU (v := .iface 107 (.agg (ak.cs x_).toArray)) (k:=WR.done (WC.block ?_)))))))
 refine WC.rs (sV (aH underlying98 zeroValue98 rfl rfl rfl) (k:=sV exV (k:=sV exV (k:=WR.done ?_))))
 refine WC.cfk (b := false) (by kernel_rfl) rfl ?_
 refine WC.rs (sV (aH underlying101 zeroValue101 rfl rfl rfl) (k:=sV exV (k:=sV exV (k:=WR.done ?_))))
 refine WC.cfk (b := false) (by kernel_rfl) rfl ?_
 refine WC.rs (sV (aH underlying166 zeroValue166 rfl rfl rfl) (k:=sV exV (k:=sV exV (k:=WR.done ?_))))
 refine WC.cfk (b := false) (by kernel_rfl) rfl ?_
 refine WC.rs (sV (dv underlying107 rfl rfl) (k:=sV exV (k:=sV exV (k:=WR.done ?_))))
 refine WC.ctk (b := true) (by kernel_rfl) rfl ?_
 refine WC.rs ?_
 refine alV zeroValue107 fun g1 => ?_
 refine stV 0 (.agg (ak.cs x_).toArray) (ak.cs x_).toArray sizeOf107 (k:=WR.done (WC.rs (sV (q_fl 0 pK) (k:=sV (ldV 0 isAgg2) (k:=sV (q_fl 1 pU) (k:=sV (ldV 0 isAgg2) (k:=?_)))))))
 refine bsV #[ii 4, ii x_.sink, ii x_.seq] 2 fun g2 => ?_
 have ho3 : Own intT Γ 2 [(g2, .cells #[ii 4, ii x_.sink, ii x_.seq] 2 (0, 0))] (some ⟨g2, 0, none⟩) 3 [4, x_.sink, x_.seq] := Own.of_blockL (T := intT) (ys := [4, x_.sink, x_.seq]) [[ii 4], [ii x_.sink], [ii x_.seq]] rfl (show 3 ≤ lim by decide) ⟨⟨rfl, iV⟩, ⟨rfl, hx_.1⟩, ⟨rfl, hx_.2⟩, trivial⟩
 have hc8 := ho3.capz
 refine seR 0 [_, _] fun Γ4 hl5 hr6 => ?_
 have hs7 := ho3.sl hl5 hr6
 refine WR.sub (fun w hw => hw.pad) ?_
 obtain ⟨z9, hz10, h⟩ := bnd h
 refine ecV [0] (caV call146) (fun w hp => gL (Own.nil av Γ4 5) hs7 hc8 hp hz10) ?_
 rintro Γ11 _ _ hl12 ⟨A15, c16, row17, rfl, rfl, hr18, _⟩
 refine cwV 48 [_, _, _] (aV (k:=WR.done ?_))
 exact WC.ret fun w hw => re_ r [0] h hF hw ⟨A15, c16, row17, rfl, rfl, hr18, trivial⟩
abbrev l8 (gq : Nat) (eq : Nat × Nat) (edk0 : Nat) (r : a6 × a7 × Int) (U : List Rowb) (Γ : Gh) (v : Value) : Prop := ∃ (rowq' : Rowb), ∃ (rowdk0' : Rowb), v = .int .i64 r.2.2 ∧ U = [rowq', rowdk0'] ∧ a6.ob eq Γ gq rowq' r.1 ∧ a7.ob edk0 Γ eq.2 rowdk0' r.2.1 ∧ I64 r.2.2 ∧ True
theorem lm {gq : Nat} {eq : Nat × Nat} {rowq : Rowb} {q : a6} (hq : a6.ob eq Γ gq rowq q) (x_ : ak) (hx_ : ak.fits Γ  x_) (sync : Bool) {edk0 : Nat} {rowdk0 : Rowb} {dk0 : a7} (hdk0 : a7.ob edk0 Γ eq.2 rowdk0 dk0) (hp : Pre [rowq, rowdk0] Γ w0) {r : a6 × a7 × Int} (h : d8 q x_ sync dk0 = some r) : Calls Tryz.prog 37 #[(pq gq), .iface 107 (.agg (ak.cs x_).toArray), .bool sync] w0 (Outc Γ [rowq, rowdk0] w0 (l8 gq eq edk0 r)) := by
 refine goV [6] func37 ntmps37 results37 hp fun F hF => ?_
 refine WC.rs (aV (k:=WR.done (WC.seq (WC.rs (mV (k:=mU (v := .iface 107 (.agg (ak.cs x_).toArray)) (k:=?_)))))))
 obtain ⟨z1, hz2, h⟩ := bnd h
 refine vqV (caV call34) (fun w hw => gA (Γ := Gh.all w) (hq.mono hw.sat.le_all) (hw.ra 0 rfl) x_ hx_ (Sat.all w) hz2) (k:=sV bu (k:=WR.done ?_))
 refine ciV h (fun hb3 h => ?_) (fun hb3 h => ?_)
 ·
  refine WC.rs (aV (k:=WR.done ?_))
  exact WC.ret fun w hw => re_ r [0, 0] h hF hw ⟨rowq, rowdk0, rfl, rfl, hq, hdk0, iV, trivial⟩
 refine WC.skip (wc_ (WC.rs (mU (v := .iface 107 (.agg (ak.cs x_).toArray)) (k:=?_))))
 obtain ⟨z4, hz5, h⟩ := bnd h
 refine ecV [] (caV call89) (fun w hp => pF x_ hx_ hp hz5) ?_
 rintro Γ6 _ _ hl7 ⟨A10, c11, row12, rfl, rfl, hr13, _⟩
 refine cwV 16 [_, _, _] (aV (k:=WR.done (WC.seq (WC.rs (mV (k:=sV nlV (k:=sV (q_fl 6 jy) (k:=?_))))))))
 obtain ⟨A2_14, c2_14, A5_14, c5_14, g6_14, r6_14, A7_14, c7_14, A8_14, A9_14, c9_14, r9_14, m11_14, r11_14, A12_14, c12_14, hrow_14, ho0_14, ho1_14, ho2_14, ho3_14, ho4_14, ho5_14, ho6_14, ho7_14, ho8_14, ho9_14, ho10_14, ho11_14, ho12_14, ho13_14, ho14_14, ho15_14, ho16_14, -⟩ := (hq.mono hl7)
 refine ufR 1 hrow_14 [_, _, _, _, _, _] ?_
 refine sV (ldV 0 isAgg75) (k:=mV (k:=?_))
 have hc19 := hr13.capz
 refine seR 4 [_, _, _, _, _, _] fun Γ15 hl16 hr17 => ?_
 have hs18 := hr13.sl hl16 hr17
 obtain ⟨z20, hz21, h⟩ := bnd h
 refine ecV [1, 4] (caV call90) (fun w hp => eK (ho8_14.mono hl16) hs18 hc19 (hdk0.mono (hl7.trans hl16)) hp hz21) ?_
 rintro Γ22 _ _ hl23 ⟨row26, row28, rfl, rfl, hr27, hr29, hr30, _⟩
 refine cwV 22 [_, _, _, _, _, _] (aV (k:=WR.done (WC.rs (mV (k:=sV bZ (k:=WR.done ?_))))))
 refine ciV h (fun hb31 h => ?_) (fun hb31 h => ?_)
 ·
  refine WC.rs (mV (k:=aV (k:=WR.done ?_)))
  refine WC.ret ?_
  intro w hw
  obtain ⟨row_32, hrow_32, hob_32⟩ : ∃ rw : Rowb, rw = ([[(gq, .cells #[ii q.c_self, ii q.c_sites, .slice A2_14 q.c_links.length c2_14, ii q.c_cap, ii q.c_base, .slice A5_14 q.c_members.length c5_14, (pq g6_14), .slice A7_14 q.applied.length c7_14, .pointer A8_14, .slice A9_14 q.list.length c9_14, ii q.next, .map (some m11_14), .slice A12_14 q.members.length c12_14] eq.1 (0, 0))], row26, r9_14, r11_14] : List Rowb).flatten ∧ a6.ob eq Γ22 gq rw (⟨q.c_self, q.c_sites, q.c_links, q.c_cap, q.c_base, q.c_members, z20.1, q.applied, q.under, q.list, q.next, q.gaps, q.members⟩ : a6) := ⟨_, rfl, A2_14, c2_14, A5_14, c5_14, g6_14, row26, A7_14, c7_14, A8_14, A9_14, c9_14, r9_14, m11_14, r11_14, A12_14, c12_14, rfl, ho0_14, ho1_14, ho2_14, (ho3_14.mono (hl16.trans hl23)), ho4_14, ho5_14, ho6_14, (ho7_14.mono (hl16.trans hl23)), hr27, ho9_14, (ho10_14.mono (hl16.trans hl23)), (ho11_14.mono (hl16.trans hl23)), (ho12_14.mono (hl16.trans hl23)), ho13_14, (ho14_14.mono (hl16.trans hl23)), ho15_14, (ho16_14.mono (hl16.trans hl23)), trivial⟩
  have hw := hw.fold (is := [2, 0, 1, 1]) rfl hrow_32
  obtain rfl := Option.some.inj h
  subst hF
  exact aO (is := [0, 0]) (by kernel_rfl) hw rfl ⟨row_32, row28, rfl, rfl, hob_32, hr29, hr30, trivial⟩
 refine WC.skip (wc_ ?_)
 obtain ⟨row_33, hrow_33, hob_33⟩ : ∃ rw : Rowb, rw = ([[(gq, .cells #[ii q.c_self, ii q.c_sites, .slice A2_14 q.c_links.length c2_14, ii q.c_cap, ii q.c_base, .slice A5_14 q.c_members.length c5_14, (pq g6_14), .slice A7_14 q.applied.length c7_14, .pointer A8_14, .slice A9_14 q.list.length c9_14, ii q.next, .map (some m11_14), .slice A12_14 q.members.length c12_14] eq.1 (0, 0))], row26, r9_14, r11_14] : List Rowb).flatten ∧ a6.ob eq Γ22 gq rw (⟨q.c_self, q.c_sites, q.c_links, q.c_cap, q.c_base, q.c_members, z20.1, q.applied, q.under, q.list, q.next, q.gaps, q.members⟩ : a6) := ⟨_, rfl, A2_14, c2_14, A5_14, c5_14, g6_14, row26, A7_14, c7_14, A8_14, A9_14, c9_14, r9_14, m11_14, r11_14, A12_14, c12_14, rfl, ho0_14, ho1_14, ho2_14, (ho3_14.mono (hl16.trans hl23)), ho4_14, ho5_14, ho6_14, (ho7_14.mono (hl16.trans hl23)), hr27, ho9_14, (ho10_14.mono (hl16.trans hl23)), (ho11_14.mono (hl16.trans hl23)), (ho12_14.mono (hl16.trans hl23)), ho13_14, (ho14_14.mono (hl16.trans hl23)), ho15_14, (ho16_14.mono (hl16.trans hl23)), trivial⟩
 refine foC [2, 0, 1, 1] hrow_33 [_, _, _] ?_
 refine WC.cut (fun σ w => ∃ (o36 : a7), ∃ (Γ34 : Gh), ∃ (row37 : Rowb), cv q z4 z20 o36 = some r ∧ slots σ [(0, (pq gq)), (7, .slice A10 z4.length c11)] ∧ CC F Γ34 [row_33, row37] w ∧ Gh.le Γ22 Γ34 ∧ a7.ob edk0 Γ34 eq.2 row37 o36 ∧ True) ?_ ?_
 ·
  refine WC.rs (mV (k:=WR.done ?_))
  refine ciV h (fun hb39 h => ?_) (fun hb39 h => ?_)
  ·
   refine WC.region ?_
   refine mV (k:=sV nlV (k:=sV (q_fl 6 jy) (k:=?_)))
   obtain ⟨A2_40, c2_40, A5_40, c5_40, g6_40, r6_40, A7_40, c7_40, A8_40, A9_40, c9_40, r9_40, m11_40, r11_40, A12_40, c12_40, hrow_40, ho0_40, ho1_40, ho2_40, ho3_40, ho4_40, ho5_40, ho6_40, ho7_40, ho8_40, ho9_40, ho10_40, ho11_40, ho12_40, ho13_40, ho14_40, ho15_40, ho16_40, -⟩ := id hob_33
   refine ufR 0 hrow_40 [_, _, _, _, _, _] ?_
   refine sV (ldV 0 isAgg75) (k:=?_)
   obtain ⟨z41, hz42, h⟩ := bnd h
   refine ecV [1, 3] (caV call91) (fun w hp => fX ho8_40 hr29 hp hz42) ?_
   rintro Γ43 _ _ hl44 ⟨row47, rfl, rfl, hr48, _⟩
   refine cwV 31 [_, _, _, _, _, _] ?_
   refine WR.nil ?_
   intro w hw
   have hw := hw.fold (is := [2, 0, 1, 1]) rfl hrow_40
   exact ⟨z41, Γ43, row47, h, slK, (hw.on [0, 0]), hl44, hr48, trivial⟩
  refine WC.skip ?_
  intro w hw
  exact ⟨z20.2.1, Γ22, row28, h, slK, (hw.on [0, 0]), gR, hr29, trivial⟩
 rintro σ w ⟨o36, Γ34, row37, h, hsl, hw, hl35, ho38, -⟩
 refine slV hsl hw [_, _] ?_; clear hw hsl
 refine WC.rs (mV (k:=?_))
 obtain ⟨z50, hz51, h⟩ := bnd h
 refine ecV [] (caV call33) (fun w hp => gO (hs18.mono (hl23.trans hl35)) hc19 hp hz51) ?_
 rintro Γ52 _ _ hl53 (⟨ho56, rfl, rfl, _⟩ | ⟨o57, ho56, A58, c59, rfl, rfl, hr60, _⟩ | ⟨o57, ho56, A61, c62, A63, c64, rfl, rfl, hr65, _⟩ | ⟨o57, ho56, rfl, rfl, hr66, _⟩ | ⟨o57, ho56, rfl, rfl, hr67, _⟩)
 ·
  have h := am.e_nil ho56 h
  refine cwV 34 [_, _] (mV (k:=sV exV (k:=sV exV (k:=aU (v := .nilIface) (k:=aV (k:=WR.done (WC.rs ?_)))))))
  refine mV (k:=mU (v := .nilIface) (k:=?_))
  obtain ⟨z68, hz69, h⟩ := bnd h
  refine ecV [0] (caV call35) (fun w hp => cN (hob_33.mono (hl35.trans hl53)) hp hz69) ?_
  rintro Γ70 _ _ hl71 ⟨rfl, rfl, _⟩
  refine cwV 39 [_, _] (WR.done (WC.rs (aV (k:=WR.done ?_))))
  exact WC.ret fun w hw => re_ r [0, 0] h hF hw ⟨row_33, row37, rfl, rfl, (hob_33.mono ((hl35.trans hl53).trans hl71)), (ho38.mono (hl53.trans hl71)), iV, trivial⟩
 ·
  have h := am.e_queue_issue ho56 h
  refine cwV 34 [_, _] (mV (k:=sV exV (k:=sV exV (k:=aU (v := .iface 98 (.agg (Rec.cs A58 c59 o57.r).toArray)) (k:=aV (k:=WR.done (WC.rs ?_)))))))
  refine mV (k:=mU (v := .iface 98 (.agg (Rec.cs A58 c59 o57.r).toArray)) (k:=?_))
  obtain ⟨z74, hz75, h⟩ := bnd h
  refine ecV [0] (caV call35) (fun w hp => bU (hob_33.mono (hl35.trans hl53)) o57 hr60 hp hz75) ?_
  rintro Γ76 _ _ hl77 ⟨row80, rfl, rfl, hr81, _⟩
  refine cwV 39 [_, _] (WR.done (WC.rs (aV (k:=WR.done ?_))))
  exact WC.ret fun w hw => re_ r [0, 0] h hF hw ⟨row80, row37, rfl, rfl, hr81, (ho38.mono (hl53.trans hl77)), iV, trivial⟩
 ·
  have h := am.e_queue_did ho56 h
  refine cwV 34 [_, _] (mV (k:=sV exV (k:=sV exV (k:=aU (v := .iface 101 (.agg (aj.cs A61 c62 A63 c64 o57).toArray)) (k:=aV (k:=WR.done (WC.rs ?_)))))))
  refine mV (k:=mU (v := .iface 101 (.agg (aj.cs A61 c62 A63 c64 o57).toArray)) (k:=?_))
  obtain ⟨z82, hz83, h⟩ := bnd h
  refine ecV [0] (caV call35) (fun w hp => bN (hob_33.mono (hl35.trans hl53)) o57 hr65 hp hz83) ?_
  rintro Γ84 _ _ hl85 ⟨row88, rfl, rfl, hr89, _⟩
  refine cwV 39 [_, _] (WR.done (WC.rs (aV (k:=WR.done ?_))))
  exact WC.ret fun w hw => re_ r [0, 0] h hF hw ⟨row88, row37, rfl, rfl, hr89, (ho38.mono (hl53.trans hl85)), iV, trivial⟩
 ·
  have h := am.e_queue_ack ho56 h
  refine cwV 34 [_, _] (mV (k:=sV exV (k:=sV exV (k:=aU (v := .iface 107 (.agg (ak.cs o57).toArray)) (k:=aV (k:=WR.done (WC.rs ?_)))))))
  refine mV (k:=mU (v := .iface 107 (.agg (ak.cs o57).toArray)) (k:=?_))
  obtain ⟨z90, hz91, h⟩ := bnd h
  refine ecV [0] (caV call35) (fun w hp => bT (hob_33.mono (hl35.trans hl53)) o57 hr66 hp hz91) ?_
  rintro Γ92 _ _ hl93 ⟨row96, rfl, rfl, hr97, _⟩
  refine cwV 39 [_, _] (WR.done (WC.rs (aV (k:=WR.done ?_))))
  exact WC.ret fun w hw => re_ r [0, 0] h hF hw ⟨row96, row37, rfl, rfl, hr97, (ho38.mono (hl53.trans hl93)), iV, trivial⟩
 have h := am.e_queue_clear ho56 h
 refine cwV 34 [_, _] (mV (k:=sV exV (k:=sV exV (k:=aU (v := .iface 118 (.agg #[ii o57.sink])) (k:=aV (k:=WR.done (WC.rs ?_)))))))
 refine mV (k:=mU (v := .iface 118 (.agg #[ii o57.sink])) (k:=?_))
 obtain ⟨z98, hz99, h⟩ := bnd h
 refine ecV [0] (caV call35) (fun w hp => bS (hob_33.mono (hl35.trans hl53)) o57 hr67 hp hz99) ?_
 rintro Γ100 _ _ hl101 ⟨row104, rfl, rfl, hr105, _⟩
 refine cwV 39 [_, _] (WR.done (WC.rs (aV (k:=WR.done ?_))))
 exact WC.ret fun w hw => re_ r [0, 0] h hF hw ⟨row104, row37, rfl, rfl, hr105, (ho38.mono (hl53.trans hl101)), iV, trivial⟩
abbrev oq (gq : Nat) (eq : Nat × Nat) (edk0 : Nat) (r : a6 × a7 × Bool) (U : List Rowb) (Γ : Gh) (v : Value) : Prop := ∃ (rowq' : Rowb), ∃ (rowdk0' : Rowb), v = .bool r.2.2 ∧ U = [rowq', rowdk0'] ∧ a6.ob eq Γ gq rowq' r.1 ∧ a7.ob edk0 Γ eq.2 rowdk0' r.2.1 ∧ True
theorem kF {gq : Nat} {eq : Nat × Nat} {rowq : Rowb} {q : a6} (hq : a6.ob eq Γ gq rowq q) (sink : Int) (hsink : I64 sink) (seq : Int) (hseq : I64 seq) {edk0 : Nat} {rowdk0 : Rowb} {dk0 : a7} (hdk0 : a7.ob edk0 Γ eq.2 rowdk0 dk0) (hp : Pre [rowq, rowdk0] Γ w0) {r : a6 × a7 × Bool} (h : da q sink seq dk0 = some r) : Calls Tryz.prog 21 #[(pq gq), ii sink, ii seq] w0 (Outc Γ [rowq, rowdk0] w0 (oq gq eq edk0 r)) := by
 refine goV [6] func21 ntmps21 results21 hp fun F hF => ?_
 refine WC.rs (aV (k:=WR.done (WC.seq (WC.rs (mV (k:=sV nlV (k:=sV (q_fl 9 dD) (k:=?_))))))))
 obtain ⟨A2_1, c2_1, A5_1, c5_1, g6_1, r6_1, A7_1, c7_1, A8_1, A9_1, c9_1, r9_1, m11_1, r11_1, A12_1, c12_1, hrow_1, ho0_1, ho1_1, ho2_1, ho3_1, ho4_1, ho5_1, ho6_1, ho7_1, ho8_1, ho9_1, ho10_1, ho11_1, ho12_1, ho13_1, ho14_1, ho15_1, ho16_1, -⟩ := id hq
 refine ufR 0 hrow_1 [_, _, _, _, _] ?_
 refine sV (ldV 0 isAgg82) (k:=?_)
 have hlen2 : q.list.length ≤ lim := ho12_1.le
 refine sV (ab rfl underlying82) (k:=mV (k:=WR.done (WC.block ?_)))
 refine WC.forU h (fun (i4 : Nat) (s : Unit) σ w => match s with | () => slots σ [(0, (pq gq)), (1, ii sink), (2, ii seq), (12, .slice A9_1 q.list.length c9_1), (13, ii (q.list.length : Int)), (14, ii (i4 : Int))] ∧ CC F Γ [[(gq, .cells #[ii q.c_self, ii q.c_sites, .slice A2_1 q.c_links.length c2_1, ii q.c_cap, ii q.c_base, .slice A5_1 q.c_members.length c5_1, (pq g6_1), .slice A7_1 q.applied.length c7_1, .pointer A8_1, .slice A9_1 q.list.length c9_1, ii q.next, .map (some m11_1), .slice A12_1 q.members.length c12_1] eq.1 (0, 0))], r6_1, r9_1, r11_1, rowdk0] w ∧ True) ?_ ?_
 ·
  intro w hw
  exact ⟨slK, hw, trivial⟩
 rintro f3 i4 ⟨⟩ σ w hi5 hlt6 hge7 ⟨hsl, hw, -⟩
 refine slV hsl hw [_, _, _, _, _] ?_; clear hw hsl
 refine WC.rs (sV aS (k:=WR.done (WC.seq ?_)))
 refine coV (fun hb8 => ?_) (fun hb8 => ?_)
 ·
  have hl9 := ilt hb8
  have h := hlt6 hl9
  refine WC.skip (wc_ (WC.seq (WC.block (WC.rs (sV (bb (i := i4) underlying82 sizeOf104 rfl rfl rfl hl9 (ho12_1.some_ hl9)) (k:=?_))))))
  obtain ⟨g_10, rL_10, rA_10, rM_10, rB_10, cs_10, hrow_10, hrd_10, hvc_10, hsub_10, hm_10, hback_10⟩ := LM.part ho12_1 hl9
  obtain ⟨A_10_2, c_10_2, A_10_3, c_10_3, rfl, hrd_10⟩ := hrd_10
  have hs1_10 : ∀ p ∈ rL_10, p ∈ r9_1 := fun p hp => by rw [hrow_10]; exact List.mem_append.2 (.inl (hsub_10 p hp))
  have hs2_10 : ∀ p ∈ rM_10, p ∈ r9_1 := fun p hp => by rw [hrow_10]; exact List.mem_append.2 (.inr (List.mem_append.2 (.inl hp)))
  refine sV (vC (c := 0) (vs := [ii (gt q.list i4).entry.seq, .string (gt q.list i4).entry.rec_.key, .slice A_10_2 ((gt q.list i4).entry.rec_.vers).length c_10_2, .slice A_10_3 ((gt q.list i4).entry.route).length c_10_3, .map (some g_10)]) (i := 2) rfl hs1_10 hvc_10 rfl isAgg104 sizeOf104 rfl rfl) (k:=?_)
  refine alV zeroValue104 fun g11 => ?_
  refine stV 0 (.agg #[ii (gt q.list i4).entry.seq, .string (gt q.list i4).entry.rec_.key, .slice A_10_2 ((gt q.list i4).entry.rec_.vers).length c_10_2, .slice A_10_3 ((gt q.list i4).entry.route).length c_10_3, .map (some g_10)]) #[ii (gt q.list i4).entry.seq, .string (gt q.list i4).entry.rec_.key, .slice A_10_2 ((gt q.list i4).entry.rec_.vers).length c_10_2, .slice A_10_3 ((gt q.list i4).entry.route).length c_10_3, .map (some g_10)] sizeOf104 (k:=WR.done (WC.rs (sV (q_fl 0 lc) (k:=sV (q_fl 0 oc) (k:=sV (ldV 0 isAgg2) (k:=mV (k:=sV bp (k:=?_))))))))
  refine mV (k:=vG1 (h:=fun hg12 => q_fl 4 k9) (k:=vG1 (h:=fun hg13 => ldV 0 isAgg80 (hx:=grV hg13)) (k:=vG1 (h:=fun hg14 => moV) (k:=?_))))
  obtain ⟨v16, hv17, hat18⟩ := MapO.look hm_10 sink (z := .bool false) (zx := false) rfl
  obtain rfl : v16 = _ := List.cons.inj hv17 |>.1
  refine vG1 (h:=fun hg15 => rj (v := .bool ((mget sink ((gt q.list i4).want)).getD false)) (fun w hw p hp => hw.at_ (i := 3) rfl (hs2_10 p hp)) hat18 rfl underlying80 zeroValue4 (grV hg15) (grV hg15)) (k:=sV pkA (k:=WR.done ?_))
  refine ciV h (fun hb19 h => ?_) (fun hb19 h => ?_)
  ·
   refine WC.rs (mV (k:=mV (k:=mV (k:=sV (aZ (v := .agg #[ii sink, ii seq]) rfl (iE rfl rfl) (fun w => by kernel_rfl)) (k:=sV (eN rfl rfl (fun w => mkif underlying107 w)) (k:=?_))))))
   refine foR [1, 1, 1, 1] hrow_1 [_, _, _] ?_
   obtain ⟨z21, hz22, h⟩ := bnd h
   refine ecV [0, 1] (caV call37) (fun w hp => lm hq (⟨sink, seq⟩ : ak) ⟨hsink, hseq⟩ false hdk0 hp hz22) ?_
   rintro Γ23 _ _ hl24 ⟨row27, row29, rfl, rfl, hr28, hr30, hr31, _⟩
   refine cwV 34 [_, _, _] (sV bp (k:=aV (k:=WR.done ?_)))
   exact WC.ret fun w hw => re_ r [0, 0] h hF hw ⟨row27, row29, rfl, rfl, hr28, hr30, trivial⟩
  refine WC.skip (wc_ ?_)
  refine WC.region ?_
  refine sV (aC rfl rfl rfl (aP hl9 hlen2)) (k:=mV (k:=?_))
  refine WR.nil ?_
  intro w hw
  exact ⟨hl9, (), h, slK, (hw.on [1, 1, 1, 1, 1]), trivial⟩
 have h := hge7 (ige hb8)
 refine WC.exit ?_
 change WC _ _ _ _ _ _
 refine WC.rs (aV (k:=WR.done ?_))
 refine WC.ret ?_
 intro w hw
 have hw := hw.fold (is := [0, 0, 0, 0]) rfl hrow_1
 exact re_ r [0, 0] h hF hw ⟨rowq, rowdk0, rfl, rfl, hq, hdk0, trivial⟩
abbrev om (gq : Nat) (eq : Nat × Nat) (rowq : Rowb) (r : Int) (U : List Rowb) (Γ : Gh) (v : Value) : Prop := v = .int .i64 r ∧ U = [rowq] ∧ I64 r ∧ True
theorem kD {gq : Nat} {eq : Nat × Nat} {rowq : Rowb} {q : a6} (hq : a6.ob eq Γ gq rowq q) (hp : Pre [rowq] Γ w0) {r : Int} (h : iF q = some r) : Calls Tryz.prog 20 #[(pq gq)] w0 (Outc Γ [rowq] w0 (om gq eq rowq r)) := by
 refine goV [2] func20 ntmps20 results20 hp fun F hF => ?_
 refine WC.rs (aV (k:=WR.done (WC.rs (mV (k:=sV nlV (k:=sV (q_fl 9 dD) (k:=?_)))))))
 obtain ⟨A2_1, c2_1, A5_1, c5_1, g6_1, r6_1, A7_1, c7_1, A8_1, A9_1, c9_1, r9_1, m11_1, r11_1, A12_1, c12_1, hrow_1, ho0_1, ho1_1, ho2_1, ho3_1, ho4_1, ho5_1, ho6_1, ho7_1, ho8_1, ho9_1, ho10_1, ho11_1, ho12_1, ho13_1, ho14_1, ho15_1, ho16_1, -⟩ := id hq
 refine ufR 0 hrow_1 [_, _, _, _] ?_
 refine sV (ldV 0 isAgg82) (k:=?_)
 have hlen2 : q.list.length ≤ lim := ho12_1.le
 refine sV (ab rfl underlying82) (k:=aV (k:=WR.done ?_))
 refine WC.ret ?_
 intro w hw
 have hw := hw.fold (is := [0, 0, 0, 0]) rfl hrow_1
 exact re_ r [0] h hF hw ⟨rfl, rfl, (lX hlen2), trivial⟩
abbrev pp (r : List UInt8) (U : List Rowb) (Γ : Gh) (v : Value) : Prop := ∃ (A0 : Option Addr), ∃ (c0 : Nat), ∃ (row0 : Rowb), v = .slice A0 r.length c0 ∧ U = [row0] ∧ Own av Γ 5 row0 A0 c0 r ∧ True
theorem pP (x_ : au) (hx_ : au.fits Γ  x_) (hp : Pre [] Γ w0) {r : List UInt8} (h : eW x_ = some r) : Calls Tryz.prog 89 #[.iface 118 (.agg #[ii x_.sink])] w0 (Outc Γ [] w0 (pp r)) := by
 refine goV [2] func89 ntmps89 results89 hp fun F hF => ?_
 refine WC.rs (aV (k:=WR.done (WC.seq (WC.rs (mU (v := .iface 118 (.agg #[ii x_.sink])) (k:=WR.done (WC.block ?_)))))))
 refine WC.rs (sV (aH underlying98 zeroValue98 rfl rfl rfl) (k:=sV exV (k:=sV exV (k:=WR.done ?_))))
 refine WC.cfk (b := false) (by kernel_rfl) rfl ?_
 refine WC.rs (sV (aH underlying101 zeroValue101 rfl rfl rfl) (k:=sV exV (k:=sV exV (k:=WR.done ?_))))
 refine WC.cfk (b := false) (by kernel_rfl) rfl ?_
 refine WC.rs (sV (aH underlying166 zeroValue166 rfl rfl rfl) (k:=sV exV (k:=sV exV (k:=WR.done ?_))))
 refine WC.cfk (b := false) (by kernel_rfl) rfl ?_
 refine WC.rs (sV (aH underlying107 zeroValue107 rfl rfl rfl) (k:=sV exV (k:=sV exV (k:=WR.done ?_))))
 refine WC.cfk (b := false) (by kernel_rfl) rfl ?_
 refine WC.rs (sV (dv underlying118 rfl rfl) (k:=sV exV (k:=sV exV (k:=WR.done ?_))))
 refine WC.ctk (b := true) (by kernel_rfl) rfl ?_
 refine WC.rs ?_
 refine alV zeroValue118 fun g1 => ?_
 refine stV 0 (.agg #[ii x_.sink]) #[ii x_.sink] sizeOf118 (k:=WR.done (WC.rs (sV (q_fl 0 pu) (k:=sV (ldV 0 isAgg2) (k:=?_)))))
 refine bsV #[ii 5, ii x_.sink] 2 fun g2 => ?_
 have ho3 : Own intT Γ 2 [(g2, .cells #[ii 5, ii x_.sink] 2 (0, 0))] (some ⟨g2, 0, none⟩) 2 [5, x_.sink] := Own.of_blockL (T := intT) (ys := [5, x_.sink]) [[ii 5], [ii x_.sink]] rfl (show 2 ≤ lim by decide) ⟨⟨rfl, iV⟩, ⟨rfl, hx_⟩, trivial⟩
 have hc8 := ho3.capz
 refine seR 0 [_, _] fun Γ4 hl5 hr6 => ?_
 have hs7 := ho3.sl hl5 hr6
 refine WR.sub (fun w hw => hw.pad) ?_
 obtain ⟨z9, hz10, h⟩ := bnd h
 refine ecV [0] (caV call146) (fun w hp => gL (Own.nil av Γ4 5) hs7 hc8 hp hz10) ?_
 rintro Γ11 _ _ hl12 ⟨A15, c16, row17, rfl, rfl, hr18, _⟩
 refine cwV 55 [_, _, _] (aV (k:=WR.done ?_))
 exact WC.ret fun w hw => re_ r [0] h hF hw ⟨A15, c16, row17, rfl, rfl, hr18, trivial⟩
abbrev lr (gq : Nat) (eq : Nat × Nat) (edk0 : Nat) (r : a6 × a7 × Int) (U : List Rowb) (Γ : Gh) (v : Value) : Prop := ∃ (rowq' : Rowb), ∃ (rowdk0' : Rowb), v = .int .i64 r.2.2 ∧ U = [rowq', rowdk0'] ∧ a6.ob eq Γ gq rowq' r.1 ∧ a7.ob edk0 Γ eq.2 rowdk0' r.2.1 ∧ I64 r.2.2 ∧ True
theorem l6 {gq : Nat} {eq : Nat × Nat} {rowq : Rowb} {q : a6} (hq : a6.ob eq Γ gq rowq q) (x_ : au) (hx_ : au.fits Γ  x_) (sync : Bool) {edk0 : Nat} {rowdk0 : Rowb} {dk0 : a7} (hdk0 : a7.ob edk0 Γ eq.2 rowdk0 dk0) (hp : Pre [rowq, rowdk0] Γ w0) {r : a6 × a7 × Int} (h : d6 q x_ sync dk0 = some r) : Calls Tryz.prog 37 #[(pq gq), .iface 118 (.agg #[ii x_.sink]), .bool sync] w0 (Outc Γ [rowq, rowdk0] w0 (lr gq eq edk0 r)) := by
 refine goV [6] func37 ntmps37 results37 hp fun F hF => ?_
 refine WC.rs (aV (k:=WR.done (WC.seq (WC.rs (mV (k:=mU (v := .iface 118 (.agg #[ii x_.sink])) (k:=?_)))))))
 obtain ⟨z1, hz2, h⟩ := bnd h
 refine vqV (caV call34) (fun w hw => gz (Γ := Gh.all w) (hq.mono hw.sat.le_all) (hw.ra 0 rfl) x_ hx_ (Sat.all w) hz2) (k:=sV bu (k:=WR.done ?_))
 refine ciV h (fun hb3 h => ?_) (fun hb3 h => ?_)
 ·
  refine WC.rs (aV (k:=WR.done ?_))
  exact WC.ret fun w hw => re_ r [0, 0] h hF hw ⟨rowq, rowdk0, rfl, rfl, hq, hdk0, iV, trivial⟩
 refine WC.skip (wc_ (WC.rs (mU (v := .iface 118 (.agg #[ii x_.sink])) (k:=?_))))
 obtain ⟨z4, hz5, h⟩ := bnd h
 refine ecV [] (caV call89) (fun w hp => pP x_ hx_ hp hz5) ?_
 rintro Γ6 _ _ hl7 ⟨A10, c11, row12, rfl, rfl, hr13, _⟩
 refine cwV 16 [_, _, _] (aV (k:=WR.done (WC.seq (WC.rs (mV (k:=sV nlV (k:=sV (q_fl 6 jy) (k:=?_))))))))
 obtain ⟨A2_14, c2_14, A5_14, c5_14, g6_14, r6_14, A7_14, c7_14, A8_14, A9_14, c9_14, r9_14, m11_14, r11_14, A12_14, c12_14, hrow_14, ho0_14, ho1_14, ho2_14, ho3_14, ho4_14, ho5_14, ho6_14, ho7_14, ho8_14, ho9_14, ho10_14, ho11_14, ho12_14, ho13_14, ho14_14, ho15_14, ho16_14, -⟩ := (hq.mono hl7)
 refine ufR 1 hrow_14 [_, _, _, _, _, _] ?_
 refine sV (ldV 0 isAgg75) (k:=mV (k:=?_))
 have hc19 := hr13.capz
 refine seR 4 [_, _, _, _, _, _] fun Γ15 hl16 hr17 => ?_
 have hs18 := hr13.sl hl16 hr17
 obtain ⟨z20, hz21, h⟩ := bnd h
 refine ecV [1, 4] (caV call90) (fun w hp => eK (ho8_14.mono hl16) hs18 hc19 (hdk0.mono (hl7.trans hl16)) hp hz21) ?_
 rintro Γ22 _ _ hl23 ⟨row26, row28, rfl, rfl, hr27, hr29, hr30, _⟩
 refine cwV 22 [_, _, _, _, _, _] (aV (k:=WR.done (WC.rs (mV (k:=sV bZ (k:=WR.done ?_))))))
 refine ciV h (fun hb31 h => ?_) (fun hb31 h => ?_)
 ·
  refine WC.rs (mV (k:=aV (k:=WR.done ?_)))
  refine WC.ret ?_
  intro w hw
  obtain ⟨row_32, hrow_32, hob_32⟩ : ∃ rw : Rowb, rw = ([[(gq, .cells #[ii q.c_self, ii q.c_sites, .slice A2_14 q.c_links.length c2_14, ii q.c_cap, ii q.c_base, .slice A5_14 q.c_members.length c5_14, (pq g6_14), .slice A7_14 q.applied.length c7_14, .pointer A8_14, .slice A9_14 q.list.length c9_14, ii q.next, .map (some m11_14), .slice A12_14 q.members.length c12_14] eq.1 (0, 0))], row26, r9_14, r11_14] : List Rowb).flatten ∧ a6.ob eq Γ22 gq rw (⟨q.c_self, q.c_sites, q.c_links, q.c_cap, q.c_base, q.c_members, z20.1, q.applied, q.under, q.list, q.next, q.gaps, q.members⟩ : a6) := ⟨_, rfl, A2_14, c2_14, A5_14, c5_14, g6_14, row26, A7_14, c7_14, A8_14, A9_14, c9_14, r9_14, m11_14, r11_14, A12_14, c12_14, rfl, ho0_14, ho1_14, ho2_14, (ho3_14.mono (hl16.trans hl23)), ho4_14, ho5_14, ho6_14, (ho7_14.mono (hl16.trans hl23)), hr27, ho9_14, (ho10_14.mono (hl16.trans hl23)), (ho11_14.mono (hl16.trans hl23)), (ho12_14.mono (hl16.trans hl23)), ho13_14, (ho14_14.mono (hl16.trans hl23)), ho15_14, (ho16_14.mono (hl16.trans hl23)), trivial⟩
  have hw := hw.fold (is := [2, 0, 1, 1]) rfl hrow_32
  obtain rfl := Option.some.inj h
  subst hF
  exact aO (is := [0, 0]) (by kernel_rfl) hw rfl ⟨row_32, row28, rfl, rfl, hob_32, hr29, hr30, trivial⟩
 refine WC.skip (wc_ ?_)
 obtain ⟨row_33, hrow_33, hob_33⟩ : ∃ rw : Rowb, rw = ([[(gq, .cells #[ii q.c_self, ii q.c_sites, .slice A2_14 q.c_links.length c2_14, ii q.c_cap, ii q.c_base, .slice A5_14 q.c_members.length c5_14, (pq g6_14), .slice A7_14 q.applied.length c7_14, .pointer A8_14, .slice A9_14 q.list.length c9_14, ii q.next, .map (some m11_14), .slice A12_14 q.members.length c12_14] eq.1 (0, 0))], row26, r9_14, r11_14] : List Rowb).flatten ∧ a6.ob eq Γ22 gq rw (⟨q.c_self, q.c_sites, q.c_links, q.c_cap, q.c_base, q.c_members, z20.1, q.applied, q.under, q.list, q.next, q.gaps, q.members⟩ : a6) := ⟨_, rfl, A2_14, c2_14, A5_14, c5_14, g6_14, row26, A7_14, c7_14, A8_14, A9_14, c9_14, r9_14, m11_14, r11_14, A12_14, c12_14, rfl, ho0_14, ho1_14, ho2_14, (ho3_14.mono (hl16.trans hl23)), ho4_14, ho5_14, ho6_14, (ho7_14.mono (hl16.trans hl23)), hr27, ho9_14, (ho10_14.mono (hl16.trans hl23)), (ho11_14.mono (hl16.trans hl23)), (ho12_14.mono (hl16.trans hl23)), ho13_14, (ho14_14.mono (hl16.trans hl23)), ho15_14, (ho16_14.mono (hl16.trans hl23)), trivial⟩
 refine foC [2, 0, 1, 1] hrow_33 [_, _, _] ?_
 refine WC.cut (fun σ w => ∃ (o36 : a7), ∃ (Γ34 : Gh), ∃ (row37 : Rowb), cw q z4 z20 o36 = some r ∧ slots σ [(0, (pq gq)), (7, .slice A10 z4.length c11)] ∧ CC F Γ34 [row_33, row37] w ∧ Gh.le Γ22 Γ34 ∧ a7.ob edk0 Γ34 eq.2 row37 o36 ∧ True) ?_ ?_
 ·
  refine WC.rs (mV (k:=WR.done ?_))
  refine ciV h (fun hb39 h => ?_) (fun hb39 h => ?_)
  ·
   refine WC.region ?_
   refine mV (k:=sV nlV (k:=sV (q_fl 6 jy) (k:=?_)))
   obtain ⟨A2_40, c2_40, A5_40, c5_40, g6_40, r6_40, A7_40, c7_40, A8_40, A9_40, c9_40, r9_40, m11_40, r11_40, A12_40, c12_40, hrow_40, ho0_40, ho1_40, ho2_40, ho3_40, ho4_40, ho5_40, ho6_40, ho7_40, ho8_40, ho9_40, ho10_40, ho11_40, ho12_40, ho13_40, ho14_40, ho15_40, ho16_40, -⟩ := id hob_33
   refine ufR 0 hrow_40 [_, _, _, _, _, _] ?_
   refine sV (ldV 0 isAgg75) (k:=?_)
   obtain ⟨z41, hz42, h⟩ := bnd h
   refine ecV [1, 3] (caV call91) (fun w hp => fX ho8_40 hr29 hp hz42) ?_
   rintro Γ43 _ _ hl44 ⟨row47, rfl, rfl, hr48, _⟩
   refine cwV 31 [_, _, _, _, _, _] ?_
   refine WR.nil ?_
   intro w hw
   have hw := hw.fold (is := [2, 0, 1, 1]) rfl hrow_40
   exact ⟨z41, Γ43, row47, h, slK, (hw.on [0, 0]), hl44, hr48, trivial⟩
  refine WC.skip ?_
  intro w hw
  exact ⟨z20.2.1, Γ22, row28, h, slK, (hw.on [0, 0]), gR, hr29, trivial⟩
 rintro σ w ⟨o36, Γ34, row37, h, hsl, hw, hl35, ho38, -⟩
 refine slV hsl hw [_, _] ?_; clear hw hsl
 refine WC.rs (mV (k:=?_))
 obtain ⟨z50, hz51, h⟩ := bnd h
 refine ecV [] (caV call33) (fun w hp => gO (hs18.mono (hl23.trans hl35)) hc19 hp hz51) ?_
 rintro Γ52 _ _ hl53 (⟨ho56, rfl, rfl, _⟩ | ⟨o57, ho56, A58, c59, rfl, rfl, hr60, _⟩ | ⟨o57, ho56, A61, c62, A63, c64, rfl, rfl, hr65, _⟩ | ⟨o57, ho56, rfl, rfl, hr66, _⟩ | ⟨o57, ho56, rfl, rfl, hr67, _⟩)
 ·
  have h := am.e_nil ho56 h
  refine cwV 34 [_, _] (mV (k:=sV exV (k:=sV exV (k:=aU (v := .nilIface) (k:=aV (k:=WR.done (WC.rs ?_)))))))
  refine mV (k:=mU (v := .nilIface) (k:=?_))
  obtain ⟨z68, hz69, h⟩ := bnd h
  refine ecV [0] (caV call35) (fun w hp => cN (hob_33.mono (hl35.trans hl53)) hp hz69) ?_
  rintro Γ70 _ _ hl71 ⟨rfl, rfl, _⟩
  refine cwV 39 [_, _] (WR.done (WC.rs (aV (k:=WR.done ?_))))
  exact WC.ret fun w hw => re_ r [0, 0] h hF hw ⟨row_33, row37, rfl, rfl, (hob_33.mono ((hl35.trans hl53).trans hl71)), (ho38.mono (hl53.trans hl71)), iV, trivial⟩
 ·
  have h := am.e_queue_issue ho56 h
  refine cwV 34 [_, _] (mV (k:=sV exV (k:=sV exV (k:=aU (v := .iface 98 (.agg (Rec.cs A58 c59 o57.r).toArray)) (k:=aV (k:=WR.done (WC.rs ?_)))))))
  refine mV (k:=mU (v := .iface 98 (.agg (Rec.cs A58 c59 o57.r).toArray)) (k:=?_))
  obtain ⟨z74, hz75, h⟩ := bnd h
  refine ecV [0] (caV call35) (fun w hp => bU (hob_33.mono (hl35.trans hl53)) o57 hr60 hp hz75) ?_
  rintro Γ76 _ _ hl77 ⟨row80, rfl, rfl, hr81, _⟩
  refine cwV 39 [_, _] (WR.done (WC.rs (aV (k:=WR.done ?_))))
  exact WC.ret fun w hw => re_ r [0, 0] h hF hw ⟨row80, row37, rfl, rfl, hr81, (ho38.mono (hl53.trans hl77)), iV, trivial⟩
 ·
  have h := am.e_queue_did ho56 h
  refine cwV 34 [_, _] (mV (k:=sV exV (k:=sV exV (k:=aU (v := .iface 101 (.agg (aj.cs A61 c62 A63 c64 o57).toArray)) (k:=aV (k:=WR.done (WC.rs ?_)))))))
  refine mV (k:=mU (v := .iface 101 (.agg (aj.cs A61 c62 A63 c64 o57).toArray)) (k:=?_))
  obtain ⟨z82, hz83, h⟩ := bnd h
  refine ecV [0] (caV call35) (fun w hp => bN (hob_33.mono (hl35.trans hl53)) o57 hr65 hp hz83) ?_
  rintro Γ84 _ _ hl85 ⟨row88, rfl, rfl, hr89, _⟩
  refine cwV 39 [_, _] (WR.done (WC.rs (aV (k:=WR.done ?_))))
  exact WC.ret fun w hw => re_ r [0, 0] h hF hw ⟨row88, row37, rfl, rfl, hr89, (ho38.mono (hl53.trans hl85)), iV, trivial⟩
 ·
  have h := am.e_queue_ack ho56 h
  refine cwV 34 [_, _] (mV (k:=sV exV (k:=sV exV (k:=aU (v := .iface 107 (.agg (ak.cs o57).toArray)) (k:=aV (k:=WR.done (WC.rs ?_)))))))
  refine mV (k:=mU (v := .iface 107 (.agg (ak.cs o57).toArray)) (k:=?_))
  obtain ⟨z90, hz91, h⟩ := bnd h
  refine ecV [0] (caV call35) (fun w hp => bT (hob_33.mono (hl35.trans hl53)) o57 hr66 hp hz91) ?_
  rintro Γ92 _ _ hl93 ⟨row96, rfl, rfl, hr97, _⟩
  refine cwV 39 [_, _] (WR.done (WC.rs (aV (k:=WR.done ?_))))
  exact WC.ret fun w hw => re_ r [0, 0] h hF hw ⟨row96, row37, rfl, rfl, hr97, (ho38.mono (hl53.trans hl93)), iV, trivial⟩
 have h := am.e_queue_clear ho56 h
 refine cwV 34 [_, _] (mV (k:=sV exV (k:=sV exV (k:=aU (v := .iface 118 (.agg #[ii o57.sink])) (k:=aV (k:=WR.done (WC.rs ?_)))))))
 refine mV (k:=mU (v := .iface 118 (.agg #[ii o57.sink])) (k:=?_))
 obtain ⟨z98, hz99, h⟩ := bnd h
 refine ecV [0] (caV call35) (fun w hp => bS (hob_33.mono (hl35.trans hl53)) o57 hr67 hp hz99) ?_
 rintro Γ100 _ _ hl101 ⟨row104, rfl, rfl, hr105, _⟩
 refine cwV 39 [_, _] (WR.done (WC.rs (aV (k:=WR.done ?_))))
 exact WC.ret fun w hw => re_ r [0, 0] h hF hw ⟨row104, row37, rfl, rfl, hr105, (ho38.mono (hl53.trans hl101)), iV, trivial⟩
abbrev n2 (gq : Nat) (eq : Nat × Nat) (edk0 : Nat) (r : a6 × a7 × Int) (U : List Rowb) (Γ : Gh) (v : Value) : Prop := ∃ (rowq' : Rowb), ∃ (rowdk0' : Rowb), v = .int .i64 r.2.2 ∧ U = [rowq', rowdk0'] ∧ a6.ob eq Γ gq rowq' r.1 ∧ a7.ob edk0 Γ eq.2 rowdk0' r.2.1 ∧ I64 r.2.2 ∧ True
theorem jT {gq : Nat} {eq : Nat × Nat} {rowq : Rowb} {q : a6} (hq : a6.ob eq Γ gq rowq q) (sink : Int) (hsink : I64 sink) {edk0 : Nat} {rowdk0 : Rowb} {dk0 : a7} (hdk0 : a7.ob edk0 Γ eq.2 rowdk0 dk0) (hp : Pre [rowq, rowdk0] Γ w0) {r : a6 × a7 × Int} (h : dg q sink dk0 = some r) : Calls Tryz.prog 25 #[(pq gq), ii sink] w0 (Outc Γ [rowq, rowdk0] w0 (n2 gq eq edk0 r)) := by
 refine goV [4] func25 ntmps25 results25 hp fun F hF => ?_
 refine WC.rs (aV (k:=WR.done (WC.seq (WC.rs (mV (k:=sV nlV (k:=sV (q_fl 11 pc) (k:=?_))))))))
 obtain ⟨A2_1, c2_1, A5_1, c5_1, g6_1, r6_1, A7_1, c7_1, A8_1, A9_1, c9_1, r9_1, m11_1, r11_1, A12_1, c12_1, hrow_1, ho0_1, ho1_1, ho2_1, ho3_1, ho4_1, ho5_1, ho6_1, ho7_1, ho8_1, ho9_1, ho10_1, ho11_1, ho12_1, ho13_1, ho14_1, ho15_1, ho16_1, -⟩ := id hq
 refine ufR 0 hrow_1 [_, _, _, _, _] ?_
 refine sV (ldV 0 isAgg80) (k:=mV (k:=?_))
 obtain ⟨v2, hv3, hat4⟩ := MapO.look ho14_1 sink (z := .bool false) (zx := false) rfl
 obtain rfl : v2 = _ := List.cons.inj hv3 |>.1
 refine sV (mK (v := .bool ((mget sink q.gaps).getD false)) hat4 rfl underlying80 zeroValue4 rfl rfl (i := 3) rfl) (k:=sV bu (k:=WR.done ?_))
 refine ciV h (fun hb5 h => ?_) (fun hb5 h => ?_)
 ·
  refine WC.rs (aV (k:=WR.done ?_))
  refine WC.ret ?_
  intro w hw
  have hw := hw.fold (is := [0, 0, 0, 0]) rfl hrow_1
  exact re_ r [0, 0] h hF hw ⟨rowq, rowdk0, rfl, rfl, hq, hdk0, iV, trivial⟩
 refine WC.skip (wc_ (WC.rs (mV (k:=mV (k:=sV (aZ (v := .agg #[ii sink]) rfl (jN rfl) (fun w => by kernel_rfl)) (k:=sV (eN rfl rfl (fun w => mkif underlying118 w)) (k:=?_)))))))
 refine foR [0, 0, 0, 0] hrow_1 [_, _] ?_
 obtain ⟨z8, hz9, h⟩ := bnd h
 refine ecV [0, 0] (caV call37) (fun w hp => l6 hq (⟨sink⟩ : au) hsink true hdk0 hp hz9) ?_
 rintro Γ10 _ _ hl11 ⟨row14, row16, rfl, rfl, hr15, hr17, hr18, _⟩
 refine cwV 16 [_, _] (aV (k:=WR.done ?_))
 exact WC.ret fun w hw => re_ r [0, 0] h hF hw ⟨row14, row16, rfl, rfl, hr15, hr17, hr18, trivial⟩
abbrev kz (r : List Int) (U : List Rowb) (Γ : Gh) (v : Value) : Prop := ∃ (A0 : Option Addr), ∃ (c0 : Nat), ∃ (row0 : Rowb), v = .slice A0 r.length c0 ∧ U = [row0] ∧ Own intT Γ 2 row0 A0 c0 r ∧ True
theorem kf {As_ : Option Addr} {cs_ : Nat} {s_ : List Int} (hs_ : Sl intT Γ As_ s_) (hs_c : s_.length ≤ cs_) (hp : Pre [] Γ w0) {r : List Int} (h : gI s_ = some r) : Calls Tryz.prog 39 #[.slice As_ s_.length cs_] w0 (Outc Γ [] w0 (kz r)) := by
 refine goV [2] func39 ntmps39 results39 hp fun F hF => ?_
 refine WC.rs (aV (k:=WR.done (WC.seq (WC.rs (mV (k:=sV (md underlying46 rfl rfl rfl) (k:=WR.done ?_)))))))
 refine WC.cnil h (by kernel_rfl) (fun hb => hs_.none_nil hb) (fun hb1 h => ?_) (fun hb1 h => ?_)
 ·
  refine WC.rs (aV (k:=WR.done ?_))
  refine WC.ret ?_
  intro w hw
  have hw := hw.pad
  exact re_ r [0] h hF hw ⟨none, 0, [], rfl, rfl, (Own.nil intT _ 2), trivial⟩
 refine WC.skip (wc_ (WC.rs ?_))
 refine bsV #[] 2 fun g2 => ?_
 refine mV (k:=?_)
 have ho3 : Own intT Γ 2 [(g2, .cells #[] 2 (0, 0))] (some ⟨g2, 0, none⟩) 0 ([] : List Int) := Own.of_blockL (T := intT) (ys := ([] : List Int)) [] rfl (show 0 ≤ lim by decide) (show True from trivial)
 obtain ⟨hk4, h⟩ := ai h
 refine apV 0 s_ mX ho3 (of_decide_eq_true hk4) (fun w hw => mv hs_ hw) ?_
 intro row5 A6 c7 ho8
 refine aV (k:=WR.done ?_)
 exact WC.ret fun w hw => re_ r [0] h hF hw ⟨A6, c7, row5, rfl, rfl, ho8, trivial⟩
abbrev m8 (gq : Nat) (eq : Nat × Nat) (rowq : Rowb) (r : List Int) (U : List Rowb) (Γ : Gh) (v : Value) : Prop := ∃ (A0 : Option Addr), ∃ (c0 : Nat), ∃ (row0 : Rowb), v = .slice A0 r.length c0 ∧ U = [rowq, row0] ∧ Own intT Γ 2 row0 A0 c0 r ∧ True
theorem m7 {gq : Nat} {eq : Nat × Nat} {rowq : Rowb} {q : a6} (hq : a6.ob eq Γ gq rowq q) (hp : Pre [rowq] Γ w0) {r : List Int} (h : j5 q = some r) : Calls Tryz.prog 13 #[(pq gq)] w0 (Outc Γ [rowq] w0 (m8 gq eq rowq r)) := by
 refine goV [2] func13 ntmps13 results13 hp fun F hF => ?_
 refine WC.rs (aV (k:=WR.done (WC.rs (mV (k:=sV nlV (k:=sV (q_fl 7 eR) (k:=?_)))))))
 obtain ⟨A2_1, c2_1, A5_1, c5_1, g6_1, r6_1, A7_1, c7_1, A8_1, A9_1, c9_1, r9_1, m11_1, r11_1, A12_1, c12_1, hrow_1, ho0_1, ho1_1, ho2_1, ho3_1, ho4_1, ho5_1, ho6_1, ho7_1, ho8_1, ho9_1, ho10_1, ho11_1, ho12_1, ho13_1, ho14_1, ho15_1, ho16_1, -⟩ := id hq
 refine ufR 0 hrow_1 [_, _, _, _] ?_
 refine sV (ldV 0 isAgg46) (k:=?_)
 obtain ⟨z2, hz3, h⟩ := bnd h
 refine ecV [] (caV call39) (fun w hp => kf ho10_1 ho9_1 hp hz3) ?_
 rintro Γ4 _ _ hl5 ⟨A8, c9, row10, rfl, rfl, hr11, _⟩
 refine cwV 7 [_, _, _, _, _] (aV (k:=WR.done ?_))
 refine WC.ret ?_
 intro w hw
 have hw := hw.fold (is := [1, 1, 1, 1]) rfl hrow_1
 exact re_ r [0, 0] h hF hw ⟨A8, c9, row10, rfl, rfl, hr11, trivial⟩
theorem ow {Aa : Option Addr} {ca : Nat} {a : List Int} (ha : Sl intT Γ Aa a) (hac : a.length ≤ ca) {Ab : Option Addr} {cb : Nat} {b : List Int} (hb : Sl intT Γ Ab b) (hbc : b.length ≤ cb) (hs : Sat Γ w0) {r : Bool} (h : kO a b = some r) : CQ Tryz.prog 17 #[.slice Aa a.length ca, .slice Ab b.length cb] w0 (.bool r) := by
 refine goQ [4] func17 ntmps17 results17 hs fun F hF => ?_
 refine WC.rs (aV (k:=WR.done (WC.seq (WC.rs (mV (k:=sV (ab rfl underlying46) (k:=mV (k:=?_))))))))
 refine sV (ab rfl underlying46) (k:=sV bZ (k:=WR.done ?_))
 refine ciV h (fun hb1 h => ?_) (fun hb1 h => ?_)
 ·
  refine WC.rs (aV (k:=WR.done ?_))
  exact WC.ret fun w hw => rq_ r h hF hw
 refine WC.skip (wc_ (WC.seq (WC.rs (aV (k:=WR.done (WC.block ?_))))))
 refine WC.forI h (fun (i3 : Nat) (s : Unit) σ w => match s with | () => slots σ [(0, .slice Aa a.length ca), (1, .slice Ab b.length cb), (5, ii (i3 : Int))] ∧ CC F Γ [] w ∧ True) ?_ ?_
 ·
  intro w hw
  exact ⟨slK, hw, trivial⟩
 rintro f2 i3 ⟨⟩ σ w hi4 hlt5 hge6 ⟨hsl, hw, -⟩
 refine slV hsl hw [] ?_; clear hw hsl
 refine WC.seq (WC.rs (mV (k:=mV (k:=sV (ab rfl underlying46) (k:=sV aS (k:=WR.done ?_))))))
 refine coV (fun hb7 => ?_) (fun hb7 => ?_)
 ·
  have hl8 := ilt hb7
  have h := hlt5 hl8
  refine WC.skip (wc_ (WC.seq (WC.block (WC.seq ?_))))
  refine drV ?_
  refine zV moV (k:=zV moV (k:=zV (bb (i := i3) underlying46 sizeOf2 rfl rfl rfl hl8 (ha.some_ hl8)) (k:=zV (q_ld (c := 0) (v := ii (gt a i3)) (ha.intT_at hl8).2 rfl isAgg2 rfl rfl) (k:=zV moV (k:=zV moV (k:=?_))))))
  obtain ⟨hk9, h⟩ := ai h
  refine zV (bb (i := i3) underlying46 sizeOf2 rfl rfl rfl (of_decide_eq_true hk9) (hb.some_ (of_decide_eq_true hk9))) (k:=zV (q_ld (c := 0) (v := ii (gt b i3)) (hb.intT_at (of_decide_eq_true hk9)).2 rfl isAgg2 rfl rfl) (k:=zV bZ (k:=?_)))
  refine WQ.nil ?_
  change WC _ _ _ _ _ _
  refine ciV h (fun hb10 h => ?_) (fun hb10 h => ?_)
  ·
   refine WC.rs (aV (k:=WR.done ?_))
   exact WC.ret fun w hw => rq_ r h hF hw
  refine WC.skip (wc_ ?_)
  refine WC.region ?_
  refine mV (k:=sV (aC rfl rfl rfl (aP hl8 ha.le)) (k:=aV (k:=?_)))
  refine WR.nil ?_
  intro w hw
  exact ⟨hl8, (), h, slK, hw, trivial⟩
 have h := hge6 (ige hb7)
 refine WC.exit ?_
 change WC _ _ _ _ _ _
 refine WC.rs (aV (k:=WR.done ?_))
 exact WC.ret fun w hw => rq_ r h hF hw
theorem ip  (hs : Sat Γ w0) {r : Bool} (h : dw = some r) : CQ Tryz.prog 6 #[] w0 (.bool r) := by
 refine goQ [0] func6 ntmps6 results6 hs fun F hF => ?_
 refine WC.rs (aV (k:=WR.done (WC.rs ?_)))
 obtain ⟨z1, hz2, h⟩ := bnd h
 refine ecV [] (caV call9) (fun w hp => qK 9000 iV hp hz2) ?_
 rintro Γ3 _ _ hl4 ⟨g7, row8, rfl, rfl, hr9, _⟩
 refine cwV 11 [_] ?_
 obtain ⟨z10, hz11, h⟩ := bnd h
 refine ecV [] (caV call7) (fun w hp => pj  hp hz11) ?_
 rintro Γ12 _ _ hl13 ⟨A16, c17, A18, c19, rfl, rfl, hr20, _⟩
 refine cwV 12 [_] ?_
 obtain ⟨z21, hz22, h⟩ := bnd h
 refine ecV [0] (caV call8) (fun w hp => k4 (hr9.mono hl13) 256 iV z10 hr20 hp hz22) ?_
 rintro Γ23 _ _ hl24 ⟨row27, g29, row30, rfl, rfl, hr28, hr31, hr32, _⟩
 refine cwV 13 [_, _] (mV (k:=sV exV (k:=sV exV (k:=aU (v := optp z21.2.1 g29) (k:=aV (k:=WR.done (WC.seq ?_)))))))
 refine WC.rs (mU (v := optp z21.2.1 g29) (k:=sV (pJ underlying27 rfl rfl rfl) (k:=mV (k:=vG0 (h:=fun hg33 => moV) (k:=vG0 (h:=fun hg34 => bZ rfl (grV hg34)) (k:=sV pkO (k:=WR.done ?_)))))))
 refine ciV h (fun hb35 h => ?_) (fun hb35 h => ?_)
 ·
  refine WC.rs (aV (k:=WR.done ?_))
  exact WC.ret fun w hw => rq_ r h hF hw
 obtain ⟨z36, hz37, h⟩ := bnd h
 have ho38 := ke hr31 hz37
 refine WC.skip (wc_ (WC.rs (sV (ay (v := (pq g29)) rfl (bj rfl hz37)) (k:=?_))))
 obtain ⟨z39, hz40, h⟩ := bnd h
 refine ecV [1, 0] (caV call10) (fun w hp => eH ho38 (⟨#[107]⟩ : ByteArray) (show (⟨#[107]⟩ : ByteArray).size ≤ lim by decide) (Sl.nil iU _ none) (Nat.zero_le 0) false (⟨#[118]⟩ : ByteArray) (show (⟨#[118]⟩ : ByteArray).size ≤ lim by decide) hr28 hp hz40) ?_
 rintro Γ41 _ _ hl42 ⟨row45, row47, A49, c50, rfl, rfl, hr46, hr48, hr51, hr52, _⟩
 refine cwV 24 [_, _] (mV (k:=sV exV (k:=sV exV (k:=?_))))
 refine alV zeroValue37 fun g53 => ?_
 refine stV 0 (.agg (Ver.cs A49 c50 z39.2.2.1).toArray) (Ver.cs A49 c50 z39.2.2.1).toArray sizeOf37 (k:=aV (k:=WR.done (WC.rs (sV (ay (v := (pq g29)) rfl (bj rfl hz37)) (k:=?_)))))
 obtain ⟨z54, hz55, h⟩ := bnd h
 refine ecV [1, 1] (caV call10) (fun w hp => eH hr46 (⟨#[107]⟩ : ByteArray) (show (⟨#[107]⟩ : ByteArray).size ≤ lim by decide) (Sl.nil iU _ none) (Nat.zero_le 0) false (⟨#[118]⟩ : ByteArray) (show (⟨#[118]⟩ : ByteArray).size ≤ lim by decide) hr48 hp hz55) ?_
 rintro Γ56 _ _ hl57 ⟨row60, row62, A64, c65, rfl, rfl, hr61, hr63, hr66, hr67, _⟩
 refine cwV 29 [_, _, _] (mV (k:=sV exV (k:=sV exV (k:=?_))))
 refine alV zeroValue37 fun g68 => ?_
 refine stV 0 (.agg (Ver.cs A64 c65 z54.2.2.1).toArray) (Ver.cs A64 c65 z54.2.2.1).toArray sizeOf37 (k:=aV (k:=WR.done (WC.rs (sV (ay (v := (pq g29)) rfl (bj rfl hz37)) (k:=?_)))))
 obtain ⟨z69, hz70, h⟩ := bnd h
 refine ecV [1] (caV call11) (fun w hp => dc hr61 hp hz70) ?_
 rintro Γ71 _ _ hl72 ⟨A75, c76, rfl, rfl, hr77, _⟩
 refine cwV 34 [_, _, _, _] (mV (k:=sV exV (k:=sV exV (k:=?_))))
 refine alV zeroValue42 fun g78 => ?_
 refine stV 0 (.agg (Rec.cs A75 c76 z69.1).toArray) (Rec.cs A75 c76 z69.1).toArray sizeOf42 (k:=aV (k:=WR.done (WC.seq (WC.rs (mV (k:=sV bZ (k:=mV (k:=?_))))))))
 refine vG0 (h:=fun hg79 => moV) (k:=vG0 (h:=fun hg80 => bZ rfl (grV hg80)) (k:=sV pkO (k:=mV (k:=vG0 (h:=fun hg81 => moV) (k:=vG0 (h:=fun hg82 => bu rfl (grV hg82)) (k:=sV pkO (k:=mV (k:=?_))))))))
 refine vG0 (h:=fun hg83 => q_fl 0 cg) (k:=vG0 (h:=fun hg84 => ldaV 4 (Dot.cs z39.2.2.1.dot) isAgg35 sizeOf35 (hx:=grV hg84)) (k:=vG0 (h:=fun hg85 => aZ (v := .agg #[ii 1, ii 1]) rfl (iE rfl rfl) (fun w => by kernel_rfl)) (k:=vG0 (h:=fun hg86 => pR (a := z39.2.2.1.dot) (b := (⟨1, 1⟩ : Dot)) rfl (grV hg86) (grV hg86)) (k:=sV pkO (k:=mV (k:=vG0 (h:=fun hg87 => ay (v := (pq g29)) rfl (bj rfl hz37)) (k:=vG0 (h:=fun hg88 => ldaV 0 (Rec.cs A75 c76 z69.1) isAgg42 sizeOf42) (k:=?_))))))))
 refine (Bool.eq_false_or_eq_true (!((((z39.2.2.2 != 0) || (z54.2.2.2 != 202)) || (!z69.2)) || (z39.2.2.1.dot != (⟨1, 1⟩ : Dot))))).elim (fun hb89 => ?_) (fun hb89 => ?_)
 ·
  have h := bt hb89 h
  refine WR.sat (c0 := true) (g := ((((z39.2.2.2 != 0) || (z54.2.2.2 != 202)) || (!z69.2)) || (z39.2.2.1.dot != (⟨1, 1⟩ : Dot)))) rfl rfl rfl hb89 ?_
  refine bsV #[ii 1] 3 fun g90 => ?_
  refine WR.sat (c0 := true) (g := ((((z39.2.2.2 != 0) || (z54.2.2.2 != 202)) || (!z69.2)) || (z39.2.2.1.dot != (⟨1, 1⟩ : Dot)))) rfl rfl rfl hb89 ?_
  have ho91 : Own intT Γ71 3 [(g90, .cells #[ii 1] 3 (0, 0))] (some ⟨g90, 0, none⟩) 1 [1] := Own.of_blockL (T := intT) (ys := [1]) [[ii 1]] rfl (show 1 ≤ lim by decide) ⟨⟨rfl, iV⟩, trivial⟩
  have hc96 := ho91.capz
  refine seR 0 [_, _, _, _, _, _] fun Γ92 hl93 hr94 => ?_
  have hs95 := ho91.sl hl93 hr94
  obtain ⟨z97, hz98, h⟩ := bnd h
  refine ecV [2, 3] (aR call12 rfl rfl (wF (grV hb89) (grV hb89) rfl)) (fun w hp => iT (hr61.mono (hl72.trans hl93)) z69.1 (Rec.fits_mono hr77 hl93) hs95 hc96 (hr63.mono (hl72.trans hl93)) hp hz98) ?_
  rintro Γ99 _ _ hl100 ⟨row103, row105, rfl, rfl, hr104, hr106, hr107, _⟩
  refine cwV 57 [_, _, _, _, _, _] ?_
  refine WR.sat (c0 := true) (g := ((((z39.2.2.2 != 0) || (z54.2.2.2 != 202)) || (!z69.2)) || (z39.2.2.1.dot != (⟨1, 1⟩ : Dot)))) rfl rfl rfl hb89 ?_
  refine sV bZ (k:=sV (dK (v := .bool (z97.2.2 != 0)) rfl rfl (qV hb89) (by kernel_rfl)) (k:=mV (k:=vG0 (h:=fun hg108 => ay (v := (pq g29)) rfl (bj rfl hz37)) (k:=?_))))
  refine (Bool.eq_false_or_eq_true (!(z97.2.2 != 0))).elim (fun hb109 => ?_) (fun hb109 => ?_)
  ·
   have h := bt hb109 h
   refine WR.sat (c0 := true) (g := (z97.2.2 != 0)) rfl rfl rfl hb109 ?_
   obtain ⟨z110, hz111, h⟩ := bnd h
   refine ecV [0] (aR call15 rfl rfl (wF (grV hb109) rfl rfl)) (fun w hp => kn hr104 2 iV 9 iV hp hz111) ?_
   rintro Γ112 _ _ hl113 ⟨A116, c117, row118, rfl, rfl, hr119, _⟩
   refine cwV 62 [_, _, _, _, _, _, _] ?_
   refine WR.sat (c0 := true) (g := (z97.2.2 != 0)) rfl rfl rfl hb109 ?_
   refine sV (ab rfl underlying49) (k:=?_)
   refine WR.sat (c0 := true) (g := (z97.2.2 != 0)) rfl rfl rfl hb109 ?_
   refine sV bZ (k:=sV (dK (v := .bool ((z110.length : Int) != 1)) rfl rfl (qV hb109) (by kernel_rfl)) (k:=WR.done ?_))
   refine ciV h (fun hb120 h => ?_) (fun hb120 h => ?_)
   ·
    refine WC.rs (aV (k:=WR.done ?_))
    exact WC.ret fun w hw => rq_ r h hF hw
   refine WC.skip (wc_ (WC.rs (sV (ay (v := (pq g29)) rfl (bj rfl hz37)) (k:=?_))))
   obtain ⟨z121, hz122, h⟩ := bnd h
   refine ecV [0, 1] (caV call10) (fun w hp => eH (hr104.mono hl113) (⟨#[108]⟩ : ByteArray) (show (⟨#[108]⟩ : ByteArray).size ≤ lim by decide) (Sl.nil iU _ none) (Nat.zero_le 0) false (⟨#[118]⟩ : ByteArray) (show (⟨#[118]⟩ : ByteArray).size ≤ lim by decide) (hr106.mono hl113) hp hz122) ?_
   rintro Γ123 _ _ hl124 ⟨row127, row129, A131, c132, rfl, rfl, hr128, hr130, hr133, hr134, _⟩
   refine cwV 67 [_, _, _, _, _, _, _] (WR.done (WC.rs (sV (ay (v := (pq g29)) rfl (bj rfl hz37)) (k:=?_))))
   obtain ⟨z135, hz136, h⟩ := bnd h
   refine ecV [0] (caV call11) (fun w hp => dc hr128 hp hz136) ?_
   rintro Γ137 _ _ hl138 ⟨A141, c142, rfl, rfl, hr143, _⟩
   refine cwV 70 [_, _, _, _, _, _, _] (mV (k:=sV exV (k:=sV exV (k:=stV 4 (.agg (Rec.cs A141 c142 z135.1).toArray) (Rec.cs A141 c142 z135.1).toArray sizeOf42 (k:=WR.done (WC.rs (sV (ay (v := (pq g29)) rfl (bj rfl hz37)) (k:=?_))))))))
   refine sV (ldaV 4 (Rec.cs A141 c142 z135.1) isAgg42 sizeOf42) (k:=?_)
   refine bsV #[ii 1] 3 fun g144 => ?_
   have ho145 : Own intT Γ137 3 [(g144, .cells #[ii 1] 3 (0, 0))] (some ⟨g144, 0, none⟩) 1 [1] := Own.of_blockL (T := intT) (ys := [1]) [[ii 1]] rfl (show 1 ≤ lim by decide) ⟨⟨rfl, iV⟩, trivial⟩
   have hc150 := ho145.capz
   refine seR 0 [_, _, _, _, _, _, _, _] fun Γ146 hl147 hr148 => ?_
   have hs149 := ho145.sl hl147 hr148
   obtain ⟨z151, hz152, h⟩ := bnd h
   refine ecV [1, 1] (caV call12) (fun w hp => iT (hr128.mono (hl138.trans hl147)) z135.1 (Rec.fits_mono hr143 hl147) hs149 hc150 (hr130.mono (hl138.trans hl147)) hp hz152) ?_
   rintro Γ153 _ _ hl154 ⟨row157, row159, rfl, rfl, hr158, hr160, hr161, _⟩
   refine cwV 76 [_, _, _, _, _, _, _, _] (aV (k:=WR.done (WC.rs (sV (ay (v := (pq g29)) rfl (bj rfl hz37)) (k:=?_)))))
   obtain ⟨z162, hz163, h⟩ := bnd h
   refine ecV [0] (caV call24) (fun w hp => fu hr158 hp hz163) ?_
   rintro Γ164 _ _ hl165 ⟨A168, c169, row170, rfl, rfl, hr171, _⟩
   refine cwV 78 [_, _, _, _, _, _, _, _, _] (sV (ab rfl underlying22) (k:=aV (k:=WR.done (WC.rs (mV (k:=sV bp (k:=mV (k:=?_))))))))
   refine vG1 (h:=fun hg172 => moV) (k:=vG1 (h:=fun hg173 => bp rfl (grV hg173)) (k:=sV pkA (k:=mV (k:=vG1 (h:=fun hg174 => ay (v := (pq g29)) rfl (bj rfl hz37)) (k:=?_)))))
   refine (Bool.eq_false_or_eq_true ((z151.2.2 == 0) && ((z162.length : Int) == 1))).elim (fun hb175 => ?_) (fun hb175 => ?_)
   ·
    have h := bt hb175 h
    refine WR.sat (c0 := true) (g := ((z151.2.2 == 0) && ((z162.length : Int) == 1))) rfl rfl rfl hb175 ?_
    obtain ⟨z176, hz177, h⟩ := bnd h
    refine ecV [0, 1] (aR call21 rfl rfl (wF (grV hb175) rfl rfl)) (fun w hp => kF (hr158.mono hl165) 2 iV 2 iV (hr160.mono hl165) hp hz177) ?_
    rintro Γ178 _ _ hl179 ⟨row182, row184, rfl, rfl, hr183, hr185, _⟩
    refine cwV 88 [_, _, _, _, _, _, _, _, _] (sV (eh (v := .bool z176.2.2) rfl rfl hb175 (by kernel_rfl)) (k:=mV (k:=vG1 (h:=fun hg186 => ay (v := (pq g29)) rfl (bj rfl hz37)) (k:=?_))))
    refine (Bool.eq_false_or_eq_true z176.2.2).elim (fun hb187 => ?_) (fun hb187 => ?_)
    ·
     have h := bt hb187 h
     refine WR.sat (c0 := true) (g := z176.2.2) rfl rfl rfl hb187 ?_
     obtain ⟨z188, hz189, h⟩ := bnd h
     refine ecV [0] (aR call20 rfl rfl (mB (grV hb187))) (fun w hp => kD hr183 hp hz189) ?_
     rintro Γ190 _ _ hl191 ⟨rfl, rfl, hr194, _⟩
     refine cwV 92 [_, _, _, _, _, _, _, _, _] ?_
     refine WR.sat (c0 := true) (g := z176.2.2) rfl rfl rfl hb187 ?_
     refine sV bp (k:=sV (eh (v := .bool (z188 == 0)) rfl rfl hb187 (by kernel_rfl)) (k:=mV (k:=vG1 (h:=fun hg195 => ay (v := (pq g29)) rfl (bj rfl hz37)) (k:=?_))))
     refine (Bool.eq_false_or_eq_true (z188 == 0)).elim (fun hb196 => ?_) (fun hb196 => ?_)
     ·
      have h := bt hb196 h
      refine WR.sat (c0 := true) (g := (z188 == 0)) rfl rfl rfl hb196 ?_
      obtain ⟨z197, hz198, h⟩ := bnd h
      refine ecV [0, 0] (aR call25 rfl rfl (fh (grV hb196) rfl)) (fun w hp => jT (hr183.mono hl191) 2 iV (hr185.mono hl191) hp hz198) ?_
      rintro Γ199 _ _ hl200 ⟨row203, row205, rfl, rfl, hr204, hr206, hr207, _⟩
      refine cwV 97 [_, _, _, _, _, _, _, _, _] ?_
      refine WR.sat (c0 := true) (g := (z188 == 0)) rfl rfl rfl hb196 ?_
      refine sV bp (k:=sV (eh (v := .bool (z197.2.2 == 0)) rfl rfl hb196 (by kernel_rfl)) (k:=mV (k:=vG1 (h:=fun hg208 => ay (v := (pq g29)) rfl (bj rfl hz37)) (k:=?_))))
      refine (Bool.eq_false_or_eq_true (z197.2.2 == 0)).elim (fun hb209 => ?_) (fun hb209 => ?_)
      ·
       have h := bt hb209 h
       refine WR.sat (c0 := true) (g := (z197.2.2 == 0)) rfl rfl rfl hb209 ?_
       obtain ⟨z210, hz211, h⟩ := bnd h
       refine ecV [0] (aR call24 rfl rfl (mB (grV hb209))) (fun w hp => fu hr204 hp hz211) ?_
       rintro Γ212 _ _ hl213 ⟨A216, c217, row218, rfl, rfl, hr219, _⟩
       refine cwV 102 [_, _, _, _, _, _, _, _, _, _] ?_
       refine WR.sat (c0 := true) (g := (z197.2.2 == 0)) rfl rfl rfl hb209 ?_
       refine sV (ab rfl underlying22) (k:=?_)
       refine WR.sat (c0 := true) (g := (z197.2.2 == 0)) rfl rfl rfl hb209 ?_
       refine sV bp (k:=sV (eh (v := .bool ((z210.length : Int) == 0)) rfl rfl hb209 (by kernel_rfl)) (k:=mV (k:=vG1 (h:=fun hg220 => ay (v := (pq g29)) rfl (bj rfl hz37)) (k:=?_))))
       refine (Bool.eq_false_or_eq_true ((z210.length : Int) == 0)).elim (fun hb221 => ?_) (fun hb221 => ?_)
       ·
        have h := bt hb221 h
        refine WR.sat (c0 := true) (g := ((z210.length : Int) == 0)) rfl rfl rfl hb221 ?_
        obtain ⟨z222, hz223, h⟩ := bnd h
        refine ecV [0] (aR call13 rfl rfl (mB (grV hb221))) (fun w hp => m7 (hr204.mono hl213) hp hz223) ?_
        rintro Γ224 _ _ hl225 ⟨A228, c229, row230, rfl, rfl, hr231, _⟩
        refine cwV 108 [_, _, _, _, _, _, _, _, _, _, _] ?_
        refine WR.sat (c0 := true) (g := ((z210.length : Int) == 0)) rfl rfl rfl hb221 ?_
        refine bsV #[ii 2, ii 0] 2 fun g232 => ?_
        refine WR.sat (c0 := true) (g := ((z210.length : Int) == 0)) rfl rfl rfl hb221 ?_
        have ho233 : Own intT Γ224 2 [(g232, .cells #[ii 2, ii 0] 2 (0, 0))] (some ⟨g232, 0, none⟩) 2 [2, 0] := Own.of_blockL (T := intT) (ys := [2, 0]) [[ii 2], [ii 0]] rfl (show 2 ≤ lim by decide) ⟨⟨rfl, iV⟩, ⟨rfl, iV⟩, trivial⟩
        obtain ⟨z234, hz235, h⟩ := bnd h
        refine vqV (caV call17) (fun w hw => ow (Γ := Gh.all w) (hr231.sl hw.sat.le_all (hw.ra 2 rfl)) hr231.capz (ho233.sl hw.sat.le_all (hw.ra 0 rfl)) ho233.capz (Sat.all w) hz235) (k:=sV (eh (v := .bool z234) rfl rfl hb221 (by kernel_rfl)) (k:=aV (k:=WR.done ?_)))
        exact WC.ret fun w hw => rq_ r h hF hw
       have h := bf hb221 h
       refine WR.unsat (c0 := true) (g := ((z210.length : Int) == 0)) rfl rfl rfl hb221 rfl ?_
       refine WR.unsat (c0 := true) (g := ((z210.length : Int) == 0)) rfl rfl rfl hb221 rfl ?_
       refine WR.unsat (c0 := true) (g := ((z210.length : Int) == 0)) rfl rfl rfl hb221 rfl ?_
       refine sV (dK (v := .bool false) rfl rfl hb221 (by kernel_rfl)) (k:=aV (k:=WR.done ?_))
       exact WC.ret fun w hw => rq_ r h hF hw
      have h := bf hb209 h
      refine WR.unsat (c0 := true) (g := (z197.2.2 == 0)) rfl rfl rfl hb209 rfl ?_
      refine WR.unsat (c0 := true) (g := (z197.2.2 == 0)) rfl rfl rfl hb209 rfl ?_
      refine WR.unsat (c0 := true) (g := (z197.2.2 == 0)) rfl rfl rfl hb209 rfl ?_
      refine sV (dK (v := .bool false) rfl rfl hb209 (by kernel_rfl)) (k:=mV (k:=?_))
      refine WR.unsat (c0 := true) (g := false) rfl rfl rfl rfl rfl ?_
      refine WR.unsat (c0 := true) (g := false) rfl rfl rfl rfl rfl ?_
      refine WR.unsat (c0 := true) (g := false) rfl rfl rfl rfl rfl ?_
      refine WR.unsat (c0 := true) (g := false) rfl rfl rfl rfl rfl ?_
      refine sV (ju (v := .bool false) rfl rfl rfl) (k:=aV (k:=WR.done ?_))
      exact WC.ret fun w hw => rq_ r h hF hw
     have h := bf hb196 h
     refine WR.unsat (c0 := true) (g := (z188 == 0)) rfl rfl rfl hb196 rfl ?_
     refine WR.unsat (c0 := true) (g := (z188 == 0)) rfl rfl rfl hb196 rfl ?_
     refine sV (dK (v := .bool false) rfl rfl hb196 (by kernel_rfl)) (k:=mV (k:=?_))
     refine WR.unsat (c0 := true) (g := false) rfl rfl rfl rfl rfl ?_
     refine WR.unsat (c0 := true) (g := false) rfl rfl rfl rfl rfl ?_
     refine WR.unsat (c0 := true) (g := false) rfl rfl rfl rfl rfl ?_
     refine WR.unsat (c0 := true) (g := false) rfl rfl rfl rfl rfl ?_
     refine sV (ju (v := .bool false) rfl rfl rfl) (k:=mV (k:=?_))
     refine WR.unsat (c0 := true) (g := false) rfl rfl rfl rfl rfl ?_
     refine WR.unsat (c0 := true) (g := false) rfl rfl rfl rfl rfl ?_
     refine WR.unsat (c0 := true) (g := false) rfl rfl rfl rfl rfl ?_
     refine WR.unsat (c0 := true) (g := false) rfl rfl rfl rfl rfl ?_
     refine sV (ju (v := .bool false) rfl rfl rfl) (k:=aV (k:=WR.done ?_))
     exact WC.ret fun w hw => rq_ r h hF hw
    have h := bf hb187 h
    refine WR.unsat (c0 := true) (g := z176.2.2) rfl rfl rfl hb187 rfl ?_
    refine WR.unsat (c0 := true) (g := z176.2.2) rfl rfl rfl hb187 rfl ?_
    refine sV (dK (v := .bool false) rfl rfl hb187 (by kernel_rfl)) (k:=mV (k:=?_))
    refine WR.unsat (c0 := true) (g := false) rfl rfl rfl rfl rfl ?_
    refine WR.unsat (c0 := true) (g := false) rfl rfl rfl rfl rfl ?_
    refine WR.unsat (c0 := true) (g := false) rfl rfl rfl rfl rfl ?_
    refine sV (ju (v := .bool false) rfl rfl rfl) (k:=mV (k:=?_))
    refine WR.unsat (c0 := true) (g := false) rfl rfl rfl rfl rfl ?_
    refine WR.unsat (c0 := true) (g := false) rfl rfl rfl rfl rfl ?_
    refine WR.unsat (c0 := true) (g := false) rfl rfl rfl rfl rfl ?_
    refine WR.unsat (c0 := true) (g := false) rfl rfl rfl rfl rfl ?_
    refine sV (ju (v := .bool false) rfl rfl rfl) (k:=mV (k:=?_))
    refine WR.unsat (c0 := true) (g := false) rfl rfl rfl rfl rfl ?_
    refine WR.unsat (c0 := true) (g := false) rfl rfl rfl rfl rfl ?_
    refine WR.unsat (c0 := true) (g := false) rfl rfl rfl rfl rfl ?_
    refine WR.unsat (c0 := true) (g := false) rfl rfl rfl rfl rfl ?_
    refine sV (ju (v := .bool false) rfl rfl rfl) (k:=aV (k:=WR.done ?_))
    exact WC.ret fun w hw => rq_ r h hF hw
   have h := bf hb175 h
   refine WR.unsat (c0 := true) (g := ((z151.2.2 == 0) && ((z162.length : Int) == 1))) rfl rfl rfl hb175 rfl ?_
   refine sV (dK (v := .bool false) rfl rfl hb175 (by kernel_rfl)) (k:=mV (k:=?_))
   refine WR.unsat (c0 := true) (g := false) rfl rfl rfl rfl rfl ?_
   refine WR.unsat (c0 := true) (g := false) rfl rfl rfl rfl rfl ?_
   refine WR.unsat (c0 := true) (g := false) rfl rfl rfl rfl rfl ?_
   refine sV (ju (v := .bool false) rfl rfl rfl) (k:=mV (k:=?_))
   refine WR.unsat (c0 := true) (g := false) rfl rfl rfl rfl rfl ?_
   refine WR.unsat (c0 := true) (g := false) rfl rfl rfl rfl rfl ?_
   refine WR.unsat (c0 := true) (g := false) rfl rfl rfl rfl rfl ?_
   refine sV (ju (v := .bool false) rfl rfl rfl) (k:=mV (k:=?_))
   refine WR.unsat (c0 := true) (g := false) rfl rfl rfl rfl rfl ?_
   refine WR.unsat (c0 := true) (g := false) rfl rfl rfl rfl rfl ?_
   refine WR.unsat (c0 := true) (g := false) rfl rfl rfl rfl rfl ?_
   refine WR.unsat (c0 := true) (g := false) rfl rfl rfl rfl rfl ?_
   refine sV (ju (v := .bool false) rfl rfl rfl) (k:=mV (k:=?_))
   refine WR.unsat (c0 := true) (g := false) rfl rfl rfl rfl rfl ?_
   refine WR.unsat (c0 := true) (g := false) rfl rfl rfl rfl rfl ?_
   refine WR.unsat (c0 := true) (g := false) rfl rfl rfl rfl rfl ?_
   refine WR.unsat (c0 := true) (g := false) rfl rfl rfl rfl rfl ?_
   refine sV (ju (v := .bool false) rfl rfl rfl) (k:=aV (k:=WR.done ?_))
   exact WC.ret fun w hw => rq_ r h hF hw
  have h := bf hb109 h
  refine WR.unsat (c0 := true) (g := (z97.2.2 != 0)) rfl rfl rfl hb109 rfl ?_
  refine WR.unsat (c0 := true) (g := (z97.2.2 != 0)) rfl rfl rfl hb109 rfl ?_
  refine WR.unsat (c0 := true) (g := (z97.2.2 != 0)) rfl rfl rfl hb109 rfl ?_
  refine sV (eh (v := .bool true) rfl rfl (qP hb109) (by kernel_rfl)) (k:=WR.done ?_)
  refine WC.ctk (b := true) (by kernel_rfl) rfl ?_
  refine WC.rs (aV (k:=WR.done ?_))
  exact WC.ret fun w hw => rq_ r h hF hw
 have h := bf hb89 h
 refine WR.unsat (c0 := true) (g := ((((z39.2.2.2 != 0) || (z54.2.2.2 != 202)) || (!z69.2)) || (z39.2.2.1.dot != (⟨1, 1⟩ : Dot)))) rfl rfl rfl hb89 rfl ?_
 refine WR.unsat (c0 := true) (g := ((((z39.2.2.2 != 0) || (z54.2.2.2 != 202)) || (!z69.2)) || (z39.2.2.1.dot != (⟨1, 1⟩ : Dot)))) rfl rfl rfl hb89 rfl ?_
 refine WR.unsat (c0 := true) (g := ((((z39.2.2.2 != 0) || (z54.2.2.2 != 202)) || (!z69.2)) || (z39.2.2.1.dot != (⟨1, 1⟩ : Dot)))) rfl rfl rfl hb89 rfl ?_
 refine sV (eh (v := .bool true) rfl rfl (qP hb89) (by kernel_rfl)) (k:=mV (k:=?_))
 refine WR.unsat (c0 := true) (g := true) rfl rfl rfl (nott rfl) rfl ?_
 refine WR.unsat (c0 := true) (g := true) rfl rfl rfl (nott rfl) rfl ?_
 refine WR.unsat (c0 := true) (g := true) rfl rfl rfl (nott rfl) rfl ?_
 refine WR.unsat (c0 := true) (g := true) rfl rfl rfl (nott rfl) rfl ?_
 refine sV (ot (v := .bool true) rfl rfl rfl) (k:=WR.done ?_)
 refine WC.ctk (b := true) (by kernel_rfl) rfl ?_
 refine WC.rs (aV (k:=WR.done ?_))
 exact WC.ret fun w hw => rq_ r h hF hw
abbrev oJ (r : aE) (U : List Rowb) (Γ : Gh) (v : Value) : Prop := ∃ (A0_2 : Option Addr), ∃ (c0_2 : Nat), ∃ (A0_5 : Option Addr), ∃ (c0_5 : Nat), v = .agg #[.int .i64 r.self, .int .i64 r.sites, .slice A0_2 r.links.length c0_2, .int .i64 r.cap, .int .i64 r.base, .slice A0_5 r.members.length c0_5] ∧ U = [] ∧ aE.fits Γ A0_2 c0_2 A0_5 c0_5 r ∧ True
theorem ol {Ac_2 : Option Addr} {cc_2 : Nat} {Ac_5 : Option Addr} {cc_5 : Nat} (c_ : aa) (hc_ : aa.fits Γ Ac_2 cc_2 Ac_5 cc_5 c_) (hp : Pre [] Γ w0) {r : aE} (h : kN c_ = some r) : Calls Tryz.prog 19 #[.agg (aa.cs Ac_2 cc_2 Ac_5 cc_5 c_).toArray] w0 (Outc Γ [] w0 (oJ r)) := by
 refine dJ (N := 16) (rs := [.cell 2 57]) (args := [.agg (aa.cs Ac_2 cc_2 Ac_5 cc_5 c_).toArray]) func19 rfl ntmps19 results19 rfl ?_
 obtain ⟨F, hF⟩ : ∃ F : Fm, F = ⟨ids [], w0, Γ⟩ := ⟨_, rfl⟩
 refine WC.here (C := CC F Γ []) ?_ (hF ▸ hp.start)
 refine WC.rs ?_
 refine bxV (v := .agg (aa.cs Ac_2 cc_2 Ac_5 cc_5 c_).toArray) fun g1 => ?_
 refine alV zeroValue57 fun g2 => ?_
 refine WR.done (WC.rs (sV (q_fl 0 iJ) (k:=sV (ldV 1 isAgg3) (k:=sV (q_fl 1 iD) (k:=sV (ldV 1 isAgg3) (k:=sV (q_fl 2 gx) (k:=sV (ldV 1 isAgg22) (k:=?_))))))))
 refine sV (q_fl 3 kb) (k:=sV (ldV 1 isAgg3) (k:=sV (q_fl 4 l7) (k:=sV (ldV 1 isAgg2) (k:=sV (q_fl 5 r8) (k:=sV (ldV 1 isAgg22) (k:=sV (aZ (v := .agg (aa.cs Ac_2 cc_2 Ac_5 cc_5 c_).toArray) rfl (BA rfl rfl rfl rfl rfl rfl) (fun w => by kernel_rfl)) (k:=stV 0 (.agg (aa.cs Ac_2 cc_2 Ac_5 cc_5 c_).toArray) (aa.cs Ac_2 cc_2 Ac_5 cc_5 c_).toArray sizeOf57 (k:=?_))))))))
 refine WR.done ?_
 refine WC.ret ?_
 intro w hw
 obtain rfl := Option.some.inj h
 subst hF
 exact ⟨[.agg (aa.cs Ac_2 cc_2 Ac_5 cc_5 c_).toArray], (dp (i := 0) (us := (aa.cs Ac_2 cc_2 Ac_5 cc_5 c_)) hw rfl isAgg57 sizeOf57 (by kernel_rfl) rfl dk), aO (is := []) (by kernel_rfl) hw rfl ⟨Ac_2, cc_2, Ac_5, cc_5, rfl, rfl, ⟨hc_.1, hc_.2.1, ⟨hc_.2.2.1.1, hc_.2.2.1.2⟩, hc_.2.2.2.1, hc_.2.2.2.2.1, ⟨hc_.2.2.2.2.2.1, hc_.2.2.2.2.2.2⟩⟩, trivial⟩⟩
end Fw
end Go.Proofs.YtlfmppjcgaekhaaGreat
