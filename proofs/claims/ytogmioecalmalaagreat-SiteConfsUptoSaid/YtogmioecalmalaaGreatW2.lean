/- Walks through the functions that the law reaches (printed by a program). No condition. -/
import Derived.Test.YtogmioecalmalaaGreatW1
namespace Go.Proofs.YtogmioecalmalaaGreat
namespace Fw
set_option linter.unusedVariables false
set_option linter.unusedSimpArgs false
set_option linter.unusedSectionVars false
set_option maxRecDepth 100000
set_option maxHeartbeats 400000
open Go.RowKit
open Go.Proofs.Tryz
variable {Γ : Gh} {w0 : World}
abbrev r_site_Open (gd : Nat) (ed : Nat) (r : Odisk_Disk × (Option Osite_Site) × Int) (U : List Rowb) (Γ : Gh) (v : Value) : Prop := ∃ (rowd' : Rowb), ∃ (g0 : Nat), ∃ (row0 : Rowb), v = .tuple #[optp r.2.1 g0, .int .i64 r.2.2] ∧ U = [rowd', row0] ∧ Odisk_Disk.ob ed Γ gd rowd' r.1 ∧ optob (Osite_Site.ob 95 Γ g0) row0 r.2.1 ∧ I64 r.2.2 ∧ True
theorem t_site_Open {Ac_1 : Option Addr} {cc_1 : Nat} {Ac_3 : Option Addr} {cc_3 : Nat} (c_ : Dapi_Conf) (hc_ : Dapi_Conf.fits Γ Ac_1 cc_1 Ac_3 cc_3 c_) (self : Int) (hself : I64 self) (boot : Int) (hboot : I64 boot) {gd ed : Nat} {rowd : Rowb} {d : Odisk_Disk} (hd : Odisk_Disk.ob ed Γ gd rowd d) (hp : Pre [rowd] Γ w0) {r : Odisk_Disk × (Option Osite_Site) × Int} (h : m_site_Open c_ self boot d = some r) : Calls Tryz.prog 7 #[.agg (Dapi_Conf.cs Ac_1 cc_1 Ac_3 cc_3 c_).toArray, ii self, ii boot, (pq gd)] w0 (Outc Γ [rowd] w0 (r_site_Open gd ed r)) := by
 refine goV [8, 9] func7 ntmps7 results7 hp fun F hF => ?_
 refine WC.rs ?_
 refine bxV (v := .agg (Dapi_Conf.cs Ac_1 cc_1 Ac_3 cc_3 c_).toArray) fun g1 => ?_
 refine aV (k:=aV (k:=WR.done (WC.seq (WC.rs (sV (ldaV 0 (Dapi_Conf.cs Ac_1 cc_1 Ac_3 cc_3 c_) isAgg25 sizeOf25) (k:=?_))))))
 obtain ⟨z2, hz3, h⟩ := bnd h
 refine vqV (caV call11) (fun w hw => t_site_Right (Γ := Gh.all w) c_ (Dapi_Conf.fits_mono hc_ hw.sat.le_all) (Sat.all w) hz3) (k:=sV q_not (k:=mV (k:=vG0 (h:=fun hg4 => moV) (k:=vG0 (h:=fun hg5 => q_lss rfl (grV hg5)) (k:=sV pkO (k:=mV (k:=vG0 (h:=fun hg6 => moV) (k:=?_))))))))
 refine vG0 (h:=fun hg7 => q_fl 0 fld_25_0) (k:=vG0 (h:=fun hg8 => ldV 0 isAgg3 (hx:=grV hg8)) (k:=vG0 (h:=fun hg9 => q_gtr rfl (grV hg9) (grV hg9)) (k:=sV pkO (k:=mV (k:=vG0 (h:=fun hg10 => moV) (k:=vG0 (h:=fun hg11 => q_lss rfl (grV hg11)) (k:=sV pkO (k:=?_))))))))
 refine mV (k:=vG0 (h:=fun hg12 => moV) (k:=vG0 (h:=fun hg13 => q_geq rfl (grV hg13)) (k:=sV pkO (k:=WR.done ?_))))
 refine ciV h (fun hb14 h => ?_) (fun hb14 h => ?_)
 ·
  refine WC.rs (aV (k:=aV (k:=WR.done ?_)))
  refine WC.ret ?_
  intro w hw
  have hw := hw.pad
  exact re_ r [2, 0] h hF hw ⟨rowd, 0, [], rfl, rfl, hd, rfl, iV, trivial⟩
 refine WC.skip (wc_ ?_)
 refine WC.cut (fun σ w => ∃ (x17 : List Dapi_arr2), ∃ (x22 : List Int), ∃ (Γ15 : Gh), ∃ (A18 : Option Addr), ∃ (c19 : Nat), ∃ (row20 : Rowb), ∃ (A23 : Option Addr), ∃ (c24 : Nat), ∃ (row25 : Rowb), m_site_Open_j1 c_ self boot d x17 x22 = some r ∧ slots σ [(1, ii self), (2, ii boot), (3, (pq gd)), (4, (pq g1))] ∧ CC F Γ15 [row20, row25, [(g1, .cells #[ii c_.sites, .slice A18 x17.length c19, ii c_.nodes, .slice A23 x22.length c24, ii c_.n, ii c_.r, ii c_.w_, ii c_.group, .string c_.secret, ii c_.room, ii c_.seg, ii c_.cap, ii c_.pend, ii c_.wait, ii c_.timeout, ii c_.hintAfter, ii c_.base] 25 (0, 0))], rowd] w ∧ Gh.le Γ Γ15 ∧ Own dapi_arr2T Γ15 81 row20 A18 c19 x17 ∧ Own intT Γ15 3 row25 A23 c24 x22 ∧ True) ?_ ?_
 ·
  refine leV fun h027 => ?_
  refine held_ (CC F Γ []) (bo_ [] gR h027) fun k => ?_
  change WH _ _ _ _ (CC F Γ [_, _]) _ 10 _ _
  refine hV 0 k (q:=q_fl 1 fld_25_1) (k:=hV 3 k (q:=q_fl 3 fld_25_3) (k:=?_))
  refine WH.each (l := [1, 4]) (by kernel_rfl) (by simp) ?_
  intro i hi; simp only [List.mem_cons, List.not_mem_nil, or_false] at hi
  rcases hi with rfl | rfl
  ·
   refine ⟨_, rfl, ?_⟩
   refine sV (ldV 0 isAgg22) (k:=?_)
   refine WR.nil (nxV (bo_ [] gR h027) fun k => ?_)
   obtain ⟨z28, hz29, h⟩ := bnd h
   refine WH.each (l := [2, 4]) (by kernel_rfl) (by simp) ?_
   intro i hi; simp only [List.mem_cons, List.not_mem_nil, or_false] at hi
   rcases hi with rfl | rfl
   ·
    refine ⟨_, rfl, ?_⟩
    refine ecV [] (caV call26) (fun w hp => t_slices_Clone_2_int_2_int hc_.2.1.2 hc_.2.1.1 hp hz29) ?_
    rintro Γ30 _ _ hl31 ⟨A34, c35, row36, rfl, rfl, hr37, _⟩
    refine cwV 38 [_, _, _] ?_
    refine WR.nil (nxV (bo_ [] hl31 h027) fun k => ?_)
    refine wl_ 4 rfl (sV (ldV 1 isAgg23) (k:=?_))
    refine WR.nil (nxV (bo_ [] hl31 h027) fun k => ?_)
    refine hV 6 k (q:=q_fl 1 fld_25_1) (k:=wl_ 5 rfl ?_)
    obtain ⟨z38, hz39, h⟩ := bnd h
    refine ecV [] (caV call27) (fun w hp => t_slices_Clone_int_int (hc_.2.2.2.1.2.mono hl31) hc_.2.2.2.1.1 hp hz39) ?_
    rintro Γ40 _ _ hl41 ⟨A44, c45, row46, rfl, rfl, hr47, _⟩
    refine cwV 41 [_, _, _, _] ?_
    refine WR.nil (nxV (bo_ [] (hl31.trans hl41) h027) fun k => ?_)
    refine wl_ 7 rfl (stV 2 (.slice A34 z28.length c35) #[ii c_.sites, .slice A34 z28.length c35, ii c_.nodes, .slice Ac_3 c_.members.length cc_3, ii c_.n, ii c_.r, ii c_.w_, ii c_.group, .string c_.secret, ii c_.room, ii c_.seg, ii c_.cap, ii c_.pend, ii c_.wait, ii c_.timeout, ii c_.hintAfter, ii c_.base] sizeOf22 (k:=?_))
    refine WR.nil (nxV (bo_ [] (hl31.trans hl41) h027) fun k => ?_)
    refine hV 8 k (q:=q_fl 3 fld_25_3) (k:=wl_ 9 rfl (stV 2 (.slice A44 z38.length c45) #[ii c_.sites, .slice A34 z28.length c35, ii c_.nodes, .slice A44 z38.length c45, ii c_.n, ii c_.r, ii c_.w_, ii c_.group, .string c_.secret, ii c_.room, ii c_.seg, ii c_.cap, ii c_.pend, ii c_.wait, ii c_.timeout, ii c_.hintAfter, ii c_.base] sizeOf23 (k:=?_)))
    refine WR.nil (nxV (bo_ [] (hl31.trans hl41) h027) fun k => ?_)
    refine WH.done (by kernel_rfl) ?_
    intro w hw
    exact ⟨z28, z38, Γ40, A34, c35, row36, A44, c45, row46, h, slK, (hw.on [1, 0, 0, 0]), (hl31.trans hl41), (hr37.mono hl41), hr47, trivial⟩
   refine ⟨_, rfl, ?_⟩
   refine sV (ldV 0 isAgg23) (k:=?_)
   refine WR.nil (nxV (bo_ [] gR h027) fun k => ?_)
   refine wl_ 2 rfl ?_
   refine ecV [] (caV call26) (fun w hp => t_slices_Clone_2_int_2_int hc_.2.1.2 hc_.2.1.1 hp hz29) ?_
   rintro Γ30 _ _ hl31 ⟨A34, c35, row36, rfl, rfl, hr37, _⟩
   refine cwV 38 [_, _, _] ?_
   refine WR.nil (nxV (bo_ [] hl31 h027) fun k => ?_)
   refine hV 6 k (q:=q_fl 1 fld_25_1) (k:=wl_ 5 rfl ?_)
   obtain ⟨z38, hz39, h⟩ := bnd h
   refine ecV [] (caV call27) (fun w hp => t_slices_Clone_int_int (hc_.2.2.2.1.2.mono hl31) hc_.2.2.2.1.1 hp hz39) ?_
   rintro Γ40 _ _ hl41 ⟨A44, c45, row46, rfl, rfl, hr47, _⟩
   refine cwV 41 [_, _, _, _] ?_
   refine WR.nil (nxV (bo_ [] (hl31.trans hl41) h027) fun k => ?_)
   refine wl_ 7 rfl (stV 2 (.slice A34 z28.length c35) #[ii c_.sites, .slice A34 z28.length c35, ii c_.nodes, .slice Ac_3 c_.members.length cc_3, ii c_.n, ii c_.r, ii c_.w_, ii c_.group, .string c_.secret, ii c_.room, ii c_.seg, ii c_.cap, ii c_.pend, ii c_.wait, ii c_.timeout, ii c_.hintAfter, ii c_.base] sizeOf22 (k:=?_))
   refine WR.nil (nxV (bo_ [] (hl31.trans hl41) h027) fun k => ?_)
   refine hV 8 k (q:=q_fl 3 fld_25_3) (k:=wl_ 9 rfl (stV 2 (.slice A44 z38.length c45) #[ii c_.sites, .slice A34 z28.length c35, ii c_.nodes, .slice A44 z38.length c45, ii c_.n, ii c_.r, ii c_.w_, ii c_.group, .string c_.secret, ii c_.room, ii c_.seg, ii c_.cap, ii c_.pend, ii c_.wait, ii c_.timeout, ii c_.hintAfter, ii c_.base] sizeOf23 (k:=?_)))
   refine WR.nil (nxV (bo_ [] (hl31.trans hl41) h027) fun k => ?_)
   refine WH.done (by kernel_rfl) ?_
   intro w hw
   exact ⟨z28, z38, Γ40, A34, c35, row36, A44, c45, row46, h, slK, (hw.on [1, 0, 0, 0]), (hl31.trans hl41), (hr37.mono hl41), hr47, trivial⟩
  refine ⟨_, rfl, ?_⟩
  refine sV (ldV 0 isAgg23) (k:=?_)
  refine WR.nil (nxV (bo_ [] gR h027) fun k => ?_)
  refine wl_ 1 rfl (sV (ldV 0 isAgg22) (k:=?_))
  refine WR.nil (nxV (bo_ [] gR h027) fun k => ?_)
  refine wl_ 2 rfl ?_
  obtain ⟨z28, hz29, h⟩ := bnd h
  refine ecV [] (caV call26) (fun w hp => t_slices_Clone_2_int_2_int hc_.2.1.2 hc_.2.1.1 hp hz29) ?_
  rintro Γ30 _ _ hl31 ⟨A34, c35, row36, rfl, rfl, hr37, _⟩
  refine cwV 38 [_, _, _] ?_
  refine WR.nil (nxV (bo_ [] hl31 h027) fun k => ?_)
  refine hV 6 k (q:=q_fl 1 fld_25_1) (k:=wl_ 5 rfl ?_)
  obtain ⟨z38, hz39, h⟩ := bnd h
  refine ecV [] (caV call27) (fun w hp => t_slices_Clone_int_int (hc_.2.2.2.1.2.mono hl31) hc_.2.2.2.1.1 hp hz39) ?_
  rintro Γ40 _ _ hl41 ⟨A44, c45, row46, rfl, rfl, hr47, _⟩
  refine cwV 41 [_, _, _, _] ?_
  refine WR.nil (nxV (bo_ [] (hl31.trans hl41) h027) fun k => ?_)
  refine wl_ 7 rfl (stV 2 (.slice A34 z28.length c35) #[ii c_.sites, .slice A34 z28.length c35, ii c_.nodes, .slice Ac_3 c_.members.length cc_3, ii c_.n, ii c_.r, ii c_.w_, ii c_.group, .string c_.secret, ii c_.room, ii c_.seg, ii c_.cap, ii c_.pend, ii c_.wait, ii c_.timeout, ii c_.hintAfter, ii c_.base] sizeOf22 (k:=?_))
  refine WR.nil (nxV (bo_ [] (hl31.trans hl41) h027) fun k => ?_)
  refine hV 8 k (q:=q_fl 3 fld_25_3) (k:=wl_ 9 rfl (stV 2 (.slice A44 z38.length c45) #[ii c_.sites, .slice A34 z28.length c35, ii c_.nodes, .slice A44 z38.length c45, ii c_.n, ii c_.r, ii c_.w_, ii c_.group, .string c_.secret, ii c_.room, ii c_.seg, ii c_.cap, ii c_.pend, ii c_.wait, ii c_.timeout, ii c_.hintAfter, ii c_.base] sizeOf23 (k:=?_)))
  refine WR.nil (nxV (bo_ [] (hl31.trans hl41) h027) fun k => ?_)
  refine WH.done (by kernel_rfl) ?_
  intro w hw
  exact ⟨z28, z38, Γ40, A34, c35, row36, A44, c45, row46, h, slK, (hw.on [1, 0, 0, 0]), (hl31.trans hl41), (hr37.mono hl41), hr47, trivial⟩
 rintro σ w ⟨x17, x22, Γ15, A18, c19, row20, A23, c24, row25, h, hsl, hw, hl16, ho21, ho26, -⟩
 refine slV hsl hw [_, _, _, _] ?_; clear hw hsl
 refine WC.seq ?_
 refine leV fun h048 => ?_
 refine held_ (CC F Γ15 [[(g1, .cells #[ii c_.sites, .slice A18 x17.length c19, ii c_.nodes, .slice A23 x22.length c24, ii c_.n, ii c_.r, ii c_.w_, ii c_.group, .string c_.secret, ii c_.room, ii c_.seg, ii c_.cap, ii c_.pend, ii c_.wait, ii c_.timeout, ii c_.hintAfter, ii c_.base] 25 (0, 0))]]) (bo_ [2] gR h048) fun k => ?_
 change WH _ _ _ _ (CC F Γ15 [_, _, _, _]) _ 11 _ _
 refine hV 0 k (q:=ldaV 0 [ii c_.sites, .slice A18 x17.length c19, ii c_.nodes, .slice A23 x22.length c24, ii c_.n, ii c_.r, ii c_.w_, ii c_.group, .string c_.secret, ii c_.room, ii c_.seg, ii c_.cap, ii c_.pend, ii c_.wait, ii c_.timeout, ii c_.hintAfter, ii c_.base] isAgg25 sizeOf25) (k:=hV 1 k (q:=moV) (k:=hV 2 k (q:=moV) (k:=hV 3 k (q:=q_shl rfl rfl rfl (by decide)) (k:=hV 4 k (q:=q_fl 12 fld_25_12) (k:=hV 5 k (q:=ldV 0 isAgg3) (k:=?_))))))
 obtain ⟨z49, hz50, h⟩ := bnd h
 refine WH.each (l := [6, 7]) (by kernel_rfl) (by simp) ?_
 intro i hi; simp only [List.mem_cons, List.not_mem_nil, or_false] at hi
 rcases hi with rfl | rfl
 ·
  refine ⟨_, rfl, ?_⟩
  refine ecV [] (caV call28) (fun w hp => t_inbox_New c_.pend hc_.2.2.2.2.2.2.2.2.2.2.2.2.1 hp hz50) ?_
  rintro Γ51 _ _ hl52 ⟨g55, row56, rfl, rfl, hr57, _⟩
  refine cwV 50 [_, _, _, _, _] ?_
  refine WR.nil (nxV (bo_ [3] hl52 h048) fun k => ?_)
  refine wl_ 7 rfl ?_
  refine e_makeMap (intK underlying3) prefV rfl rfl rfl rfl ?_
  intro g58 row59 hm60
  have hm60 := MapJ.new (T := (Opull_Cut.tob 321)) hm60
  refine WR.nil (nxV (bo_ [4] hl52 h048) fun k => ?_)
  refine hV 8 k (q:=q_build' (v := .agg #[ii c_.sites, .slice A18 x17.length c19, ii c_.nodes, .slice A23 x22.length c24, ii c_.n, ii c_.r, ii c_.w_, ii c_.group, .string c_.secret, ii c_.room, ii c_.seg, ii c_.cap, ii c_.pend, ii c_.wait, ii c_.timeout, ii c_.hintAfter, ii c_.base, ii self, .slice none 0 0, .pointer none, (pq g55), ii (ishl .i64 boot 32), .pointer none, .pointer none, .slice none 0 0, .slice none 0 0, .slice none 0 0, .map (some g58), .pointer none, .pointer none, .slice none 0 0, .slice none 0 0]) rfl (bargs5 rfl rfl rfl rfl rfl) (fun w => by kernel_rfl)) (k:=wl_ 9 rfl ?_)
  refine bxV (v := .agg #[ii c_.sites, .slice A18 x17.length c19, ii c_.nodes, .slice A23 x22.length c24, ii c_.n, ii c_.r, ii c_.w_, ii c_.group, .string c_.secret, ii c_.room, ii c_.seg, ii c_.cap, ii c_.pend, ii c_.wait, ii c_.timeout, ii c_.hintAfter, ii c_.base, ii self, .slice none 0 0, .pointer none, (pq g55), ii (ishl .i64 boot 32), .pointer none, .pointer none, .slice none 0 0, .slice none 0 0, .slice none 0 0, .map (some g58), .pointer none, .pointer none, .slice none 0 0, .slice none 0 0]) fun gh53_ => ?_
  refine WR.nil (nxV (bo_ [5] hl52 h048) fun k => ?_)
  refine hV 10 k (q:=aoV) (k:=?_)
  refine WH.done (by kernel_rfl) ?_
  change WC _ _ _ _ _ _
  refine WC.seq (WC.rs (sV (q_fl 1 fld_25_1) (k:=sV (ldV 5 isAgg22) (k:=sV (q_len_slice rfl underlying22) (k:=mV (k:=WR.done (WC.block ?_)))))))
  refine WC.forI h (fun (i67 : Nat) (x61 : List Int) σ w => ∃ (A62 : Option Addr), ∃ (c63 : Nat), ∃ (row64 : Rowb), slots σ [(1, ii self), (3, (pq gd)), (4, (pq g1)), (10, (pq gh53_)), (55, .slice A18 x17.length c19), (56, ii (x17.length : Int)), (57, ii (i67 : Int))] ∧ CC F Γ51 [row64, [(gh53_, .cells #[ii c_.sites, .slice A18 x17.length c19, ii c_.nodes, .slice A23 x22.length c24, ii c_.n, ii c_.r, ii c_.w_, ii c_.group, .string c_.secret, ii c_.room, ii c_.seg, ii c_.cap, ii c_.pend, ii c_.wait, ii c_.timeout, ii c_.hintAfter, ii c_.base, ii self, .slice A62 x61.length c63, .pointer none, (pq g55), ii (ishl .i64 boot 32), .pointer none, .pointer none, .slice none 0 0, .slice none 0 0, .slice none 0 0, .map (some g58), .pointer none, .pointer none, .slice none 0 0, .slice none 0 0] 95 (0, 0))], row59, row56, row20, row25, [(g1, .cells #[ii c_.sites, .slice A18 x17.length c19, ii c_.nodes, .slice A23 x22.length c24, ii c_.n, ii c_.r, ii c_.w_, ii c_.group, .string c_.secret, ii c_.room, ii c_.seg, ii c_.cap, ii c_.pend, ii c_.wait, ii c_.timeout, ii c_.hintAfter, ii c_.base] 25 (0, 0))], rowd] w ∧ Own intT Γ51 3 row64 A62 c63 x61 ∧ True) ?_ ?_
  ·
   intro w hw
   have hw := hw.pad
   exact ⟨none, 0, [], slK, hw, (Own.nil intT _ 3), trivial⟩
  rintro f66 i67 x61 σ w hi68 hlt69 hge70 ⟨A62, c63, row64, hsl, hw, ho65, -⟩
  refine slV hsl hw [_, _, _, _, _, _, _, _] ?_; clear hw hsl
  refine WC.rs (sV q_lss (k:=WR.done (WC.seq ?_)))
  refine coV (fun hb71 => ?_) (fun hb71 => ?_)
  ·
   have hl72 := ilt hb71
   have h := hlt69 hl72
   refine WC.skip (wc_ ?_)
   refine WC.cut (fun σ w => ∃ (x73 : List Int), ∃ (A74 : Option Addr), ∃ (c75 : Nat), ∃ (row76 : Rowb), m_site_Open_j6 f66 x73 = some r ∧ slots σ [(1, ii self), (3, (pq gd)), (4, (pq g1)), (10, (pq gh53_)), (55, .slice A18 x17.length c19), (56, ii (x17.length : Int)), (57, ii (i67 : Int))] ∧ CC F Γ51 [row76, [(gh53_, .cells #[ii c_.sites, .slice A18 x17.length c19, ii c_.nodes, .slice A23 x22.length c24, ii c_.n, ii c_.r, ii c_.w_, ii c_.group, .string c_.secret, ii c_.room, ii c_.seg, ii c_.cap, ii c_.pend, ii c_.wait, ii c_.timeout, ii c_.hintAfter, ii c_.base, ii self, .slice A74 x73.length c75, .pointer none, (pq g55), ii (ishl .i64 boot 32), .pointer none, .pointer none, .slice none 0 0, .slice none 0 0, .slice none 0 0, .map (some g58), .pointer none, .pointer none, .slice none 0 0, .slice none 0 0] 95 (0, 0))], row59, row56, row20, row25, [(g1, .cells #[ii c_.sites, .slice A18 x17.length c19, ii c_.nodes, .slice A23 x22.length c24, ii c_.n, ii c_.r, ii c_.w_, ii c_.group, .string c_.secret, ii c_.room, ii c_.seg, ii c_.cap, ii c_.pend, ii c_.wait, ii c_.timeout, ii c_.hintAfter, ii c_.base] 25 (0, 0))], rowd] w ∧ Own intT Γ51 3 row76 A74 c75 x73 ∧ True) ?_ ?_
   ·
    refine WC.block (WC.rs (sV (q_ixn (i := i67) underlying22 sizeOf81 rfl rfl rfl hl72 ((ho21.mono hl52).some_ hl72)) (k:=sV (q_ldoa (c := 0) (vs := (Dapi_arr2.cs (gt x17 i67))) (i := 4) rfl ((ho21.mono hl52).dapi_arr2T_at hl72).2 rfl isAgg81 sizeOf81 rfl rfl) (k:=?_))))
    refine alV zeroValue81 fun g78 => ?_
    refine stV 0 (.agg (Dapi_arr2.cs (gt x17 i67)).toArray) (Dapi_arr2.cs (gt x17 i67)).toArray sizeOf81 (k:=WR.done (WC.rs (sV (q_ixa_ (0) underlying81 sizeOf3 rfl rfl rfl rfl rfl) (k:=sV (ldV 0 isAgg3) (k:=mV (k:=sV q_eql (k:=WR.done ?_)))))))
    refine ciV h (fun hb79 h => ?_) (fun hb79 h => ?_)
    ·
     refine leV fun h080 => ?_
     refine held_ (CC F Γ51 [[(g78, .cells (Dapi_arr2.cs (gt x17 i67)).toArray 81 (0, 0))], [(g1, .cells #[ii c_.sites, .slice A18 x17.length c19, ii c_.nodes, .slice A23 x22.length c24, ii c_.n, ii c_.r, ii c_.w_, ii c_.group, .string c_.secret, ii c_.room, ii c_.seg, ii c_.cap, ii c_.pend, ii c_.wait, ii c_.timeout, ii c_.hintAfter, ii c_.base] 25 (0, 0))]]) (bo_ [0, 6] gR h080) fun k => ?_
     change WH _ _ _ _ (CC F Γ51 [_, _, _, _, _, _, _, _, _]) _ 12 _ _
     refine hV 0 k (q:=moV) (k:=hV 1 k (q:=moV) (k:=hV 2 k (q:=nlV) (k:=hV 3 k (q:=q_fl 18 fld_95_2) (k:=hV 5 k (q:=q_ixa_ (1) underlying81 sizeOf3 rfl rfl rfl rfl rfl) (k:=hV 6 k (q:=ldV 0 isAgg3) (k:=?_))))))
     refine WH.each (l := [4, 7]) (by kernel_rfl) (by simp) ?_
     intro i hi; simp only [List.mem_cons, List.not_mem_nil, or_false] at hi
     rcases hi with rfl | rfl
     ·
      refine ⟨_, rfl, ?_⟩
      refine sV (ldV 2 isAgg23) (k:=?_)
      refine WR.nil (nxV (bo_ [0, 6] gR h080) fun k => ?_)
      refine wl_ 7 rfl ?_
      refine bsV #[ii (gt x17 i67).a1] 3 fun g81 => ?_
      refine WR.nil (nxV (bo_ [1, 7] gR h080) fun k => ?_)
      refine wl_ 8 rfl ?_
      obtain ⟨hk82, h⟩ := chk_some h
      refine apV 2 [(gt x17 i67).a1] elem_23 ho65 (of_decide_eq_true hk82) (fun w hw => src_one (i := 0) rfl (by exact ⟨rfl, ((ho21.mono hl52).dapi_arr2T_at hl72).1.2⟩) hw) ?_
      intro row83 A84 c85 ho86
      refine WR.nil (nxV (bo_ [1, 7] gR h080) fun k => ?_)
      refine hV 9 k (q:=nlV) (k:=hV 10 k (q:=q_fl 18 fld_95_2) (k:=wl_ 11 rfl (stV 3 (.slice A84 (x61 ++ [(gt x17 i67).a1]).length c85) #[ii c_.sites, .slice A18 x17.length c19, ii c_.nodes, .slice A23 x22.length c24, ii c_.n, ii c_.r, ii c_.w_, ii c_.group, .string c_.secret, ii c_.room, ii c_.seg, ii c_.cap, ii c_.pend, ii c_.wait, ii c_.timeout, ii c_.hintAfter, ii c_.base, ii self, .slice A84 (x61 ++ [(gt x17 i67).a1]).length c85, .pointer none, (pq g55), ii (ishl .i64 boot 32), .pointer none, .pointer none, .slice none 0 0, .slice none 0 0, .slice none 0 0, .map (some g58), .pointer none, .pointer none, .slice none 0 0, .slice none 0 0] sizeOf23 (k:=?_))))
      refine WR.nil (nxV (bo_ [1, 7] gR h080) fun k => ?_)
      refine WH.done (by kernel_rfl) ?_
      intro w hw
      exact ⟨(x61 ++ [(gt x17 i67).a1]), A84, c85, row83, h, slK, (hw.on [2, 2, 2, 2, 2, 2, 2, 2]), ho86, trivial⟩
     refine ⟨_, rfl, ?_⟩
     refine bsV #[ii (gt x17 i67).a1] 3 fun g81 => ?_
     refine WR.nil (nxV (bo_ [1, 7] gR h080) fun k => ?_)
     refine wl_ 4 rfl (sV (ldV 3 isAgg23) (k:=?_))
     refine WR.nil (nxV (bo_ [1, 7] gR h080) fun k => ?_)
     refine wl_ 8 rfl ?_
     obtain ⟨hk82, h⟩ := chk_some h
     refine apV 2 [(gt x17 i67).a1] elem_23 ho65 (of_decide_eq_true hk82) (fun w hw => src_one (i := 0) rfl (by exact ⟨rfl, ((ho21.mono hl52).dapi_arr2T_at hl72).1.2⟩) hw) ?_
     intro row83 A84 c85 ho86
     refine WR.nil (nxV (bo_ [1, 7] gR h080) fun k => ?_)
     refine hV 9 k (q:=nlV) (k:=hV 10 k (q:=q_fl 18 fld_95_2) (k:=wl_ 11 rfl (stV 3 (.slice A84 (x61 ++ [(gt x17 i67).a1]).length c85) #[ii c_.sites, .slice A18 x17.length c19, ii c_.nodes, .slice A23 x22.length c24, ii c_.n, ii c_.r, ii c_.w_, ii c_.group, .string c_.secret, ii c_.room, ii c_.seg, ii c_.cap, ii c_.pend, ii c_.wait, ii c_.timeout, ii c_.hintAfter, ii c_.base, ii self, .slice A84 (x61 ++ [(gt x17 i67).a1]).length c85, .pointer none, (pq g55), ii (ishl .i64 boot 32), .pointer none, .pointer none, .slice none 0 0, .slice none 0 0, .slice none 0 0, .map (some g58), .pointer none, .pointer none, .slice none 0 0, .slice none 0 0] sizeOf23 (k:=?_))))
     refine WR.nil (nxV (bo_ [1, 7] gR h080) fun k => ?_)
     refine WH.done (by kernel_rfl) ?_
     intro w hw
     exact ⟨(x61 ++ [(gt x17 i67).a1]), A84, c85, row83, h, slK, (hw.on [2, 2, 2, 2, 2, 2, 2, 2]), ho86, trivial⟩
    refine WC.rs (sV (q_ixa_ (1) underlying81 sizeOf3 rfl rfl rfl rfl rfl) (k:=sV (ldV 0 isAgg3) (k:=mV (k:=sV q_eql (k:=WR.done ?_)))))
    refine ciV h (fun hb87 h => ?_) (fun hb87 h => ?_)
    ·
     refine leV fun h088 => ?_
     refine held_ (CC F Γ51 [[(g78, .cells (Dapi_arr2.cs (gt x17 i67)).toArray 81 (0, 0))], [(g1, .cells #[ii c_.sites, .slice A18 x17.length c19, ii c_.nodes, .slice A23 x22.length c24, ii c_.n, ii c_.r, ii c_.w_, ii c_.group, .string c_.secret, ii c_.room, ii c_.seg, ii c_.cap, ii c_.pend, ii c_.wait, ii c_.timeout, ii c_.hintAfter, ii c_.base] 25 (0, 0))]]) (bo_ [0, 6] gR h088) fun k => ?_
     change WH _ _ _ _ (CC F Γ51 [_, _, _, _, _, _, _, _, _]) _ 12 _ _
     refine hV 0 k (q:=moV) (k:=hV 1 k (q:=moV) (k:=hV 2 k (q:=nlV) (k:=hV 3 k (q:=q_fl 18 fld_95_2) (k:=hV 5 k (q:=q_ixa_ (0) underlying81 sizeOf3 rfl rfl rfl rfl rfl) (k:=hV 6 k (q:=ldV 0 isAgg3) (k:=?_))))))
     refine WH.each (l := [4, 7]) (by kernel_rfl) (by simp) ?_
     intro i hi; simp only [List.mem_cons, List.not_mem_nil, or_false] at hi
     rcases hi with rfl | rfl
     ·
      refine ⟨_, rfl, ?_⟩
      refine sV (ldV 2 isAgg23) (k:=?_)
      refine WR.nil (nxV (bo_ [0, 6] gR h088) fun k => ?_)
      refine wl_ 7 rfl ?_
      refine bsV #[ii (gt x17 i67).a0] 3 fun g89 => ?_
      refine WR.nil (nxV (bo_ [1, 7] gR h088) fun k => ?_)
      refine wl_ 8 rfl ?_
      obtain ⟨hk90, h⟩ := chk_some h
      refine apV 2 [(gt x17 i67).a0] elem_23 ho65 (of_decide_eq_true hk90) (fun w hw => src_one (i := 0) rfl (by exact ⟨rfl, ((ho21.mono hl52).dapi_arr2T_at hl72).1.1⟩) hw) ?_
      intro row91 A92 c93 ho94
      refine WR.nil (nxV (bo_ [1, 7] gR h088) fun k => ?_)
      refine hV 9 k (q:=nlV) (k:=hV 10 k (q:=q_fl 18 fld_95_2) (k:=wl_ 11 rfl (stV 3 (.slice A92 (x61 ++ [(gt x17 i67).a0]).length c93) #[ii c_.sites, .slice A18 x17.length c19, ii c_.nodes, .slice A23 x22.length c24, ii c_.n, ii c_.r, ii c_.w_, ii c_.group, .string c_.secret, ii c_.room, ii c_.seg, ii c_.cap, ii c_.pend, ii c_.wait, ii c_.timeout, ii c_.hintAfter, ii c_.base, ii self, .slice A92 (x61 ++ [(gt x17 i67).a0]).length c93, .pointer none, (pq g55), ii (ishl .i64 boot 32), .pointer none, .pointer none, .slice none 0 0, .slice none 0 0, .slice none 0 0, .map (some g58), .pointer none, .pointer none, .slice none 0 0, .slice none 0 0] sizeOf23 (k:=?_))))
      refine WR.nil (nxV (bo_ [1, 7] gR h088) fun k => ?_)
      refine WH.done (by kernel_rfl) ?_
      intro w hw
      exact ⟨(x61 ++ [(gt x17 i67).a0]), A92, c93, row91, h, slK, (hw.on [2, 2, 2, 2, 2, 2, 2, 2]), ho94, trivial⟩
     refine ⟨_, rfl, ?_⟩
     refine bsV #[ii (gt x17 i67).a0] 3 fun g89 => ?_
     refine WR.nil (nxV (bo_ [1, 7] gR h088) fun k => ?_)
     refine wl_ 4 rfl (sV (ldV 3 isAgg23) (k:=?_))
     refine WR.nil (nxV (bo_ [1, 7] gR h088) fun k => ?_)
     refine wl_ 8 rfl ?_
     obtain ⟨hk90, h⟩ := chk_some h
     refine apV 2 [(gt x17 i67).a0] elem_23 ho65 (of_decide_eq_true hk90) (fun w hw => src_one (i := 0) rfl (by exact ⟨rfl, ((ho21.mono hl52).dapi_arr2T_at hl72).1.1⟩) hw) ?_
     intro row91 A92 c93 ho94
     refine WR.nil (nxV (bo_ [1, 7] gR h088) fun k => ?_)
     refine hV 9 k (q:=nlV) (k:=hV 10 k (q:=q_fl 18 fld_95_2) (k:=wl_ 11 rfl (stV 3 (.slice A92 (x61 ++ [(gt x17 i67).a0]).length c93) #[ii c_.sites, .slice A18 x17.length c19, ii c_.nodes, .slice A23 x22.length c24, ii c_.n, ii c_.r, ii c_.w_, ii c_.group, .string c_.secret, ii c_.room, ii c_.seg, ii c_.cap, ii c_.pend, ii c_.wait, ii c_.timeout, ii c_.hintAfter, ii c_.base, ii self, .slice A92 (x61 ++ [(gt x17 i67).a0]).length c93, .pointer none, (pq g55), ii (ishl .i64 boot 32), .pointer none, .pointer none, .slice none 0 0, .slice none 0 0, .slice none 0 0, .map (some g58), .pointer none, .pointer none, .slice none 0 0, .slice none 0 0] sizeOf23 (k:=?_))))
     refine WR.nil (nxV (bo_ [1, 7] gR h088) fun k => ?_)
     refine WH.done (by kernel_rfl) ?_
     intro w hw
     exact ⟨(x61 ++ [(gt x17 i67).a0]), A92, c93, row91, h, slK, (hw.on [2, 2, 2, 2, 2, 2, 2, 2]), ho94, trivial⟩
    refine WC.skip ?_
    intro w hw
    exact ⟨x61, A62, c63, row64, h, slK, (hw.on [1, 1, 1, 1, 1, 1, 1, 1]), ho65, trivial⟩
   rintro σ w ⟨x73, A74, c75, row76, h, hsl, hw, ho77, -⟩
   refine slV hsl hw [_, _, _, _, _, _, _, _] ?_; clear hw hsl
   refine WC.region ?_
   refine sV (q_add_r rfl rfl rfl (ctr_len hl72 (ho21.mono hl52).le)) (k:=mV (k:=?_))
   refine WR.nil ?_
   intro w hw
   exact ⟨hl72, x73, h, A74, c75, row76, slK, hw, ho77, trivial⟩
  have h := hge70 (ige hb71)
  refine WC.exit ?_
  change WC _ _ _ _ _ _
  refine WC.rs (mV (k:=sV nlV (k:=sV (q_fl 18 fld_95_2) (k:=sV (ldV 1 isAgg23) (k:=?_)))))
  refine ecV [0] (caV call29) (fun w hp => sort_ints srt29 ho65 hp) ?_
  rintro Γ95 _ _ hl96 ⟨rfl, row99, rfl, ho100⟩
  refine cwV 96 [_, _, _, _, _, _, _, _] ?_
  rw [show Value.slice A62 (x61.length) c63 = Value.slice A62 ((srtI x61).length) c63 from by first | (rw [(srtI_len _)]; done) | (rw [(srtI_len _)]; rfl)]
  refine WR.done (WC.seq ?_)
  refine leV fun h0101 => ?_
  refine held_ (CC F Γ95 [[(gh53_, .cells #[ii c_.sites, .slice A18 x17.length c19, ii c_.nodes, .slice A23 x22.length c24, ii c_.n, ii c_.r, ii c_.w_, ii c_.group, .string c_.secret, ii c_.room, ii c_.seg, ii c_.cap, ii c_.pend, ii c_.wait, ii c_.timeout, ii c_.hintAfter, ii c_.base, ii self, .slice A62 (srtI x61).length c63, .pointer none, (pq g55), ii (ishl .i64 boot 32), .pointer none, .pointer none, .slice none 0 0, .slice none 0 0, .slice none 0 0, .map (some g58), .pointer none, .pointer none, .slice none 0 0, .slice none 0 0] 95 (0, 0))], [(g1, .cells #[ii c_.sites, .slice A18 x17.length c19, ii c_.nodes, .slice A23 x22.length c24, ii c_.n, ii c_.r, ii c_.w_, ii c_.group, .string c_.secret, ii c_.room, ii c_.seg, ii c_.cap, ii c_.pend, ii c_.wait, ii c_.timeout, ii c_.hintAfter, ii c_.base] 25 (0, 0))]]) (bo_ [1, 5] gR h0101) fun k => ?_
  change WH _ _ _ _ (CC F Γ95 [_, _, _, _, _, _, _, _]) _ 23 _ _
  refine hV 0 k (q:=moV) (k:=hV 1 k (q:=q_fl 10 fld_25_10) (k:=hV 2 k (q:=ldV 1 isAgg3) (k:=hV 3 k (q:=moV) (k:=hV 4 k (q:=q_fl 0 fld_25_0) (k:=hV 5 k (q:=ldV 1 isAgg3) (k:=hV 6 k (q:=moV) (k:=hV 7 k (q:=nlV) (k:=?_))))))))
  refine hV 8 k (q:=q_fl 18 fld_95_2) (k:=hV 9 k (q:=ldV 0 isAgg23) (k:=hV 10 k (q:=q_fl 11 fld_25_11) (k:=hV 11 k (q:=ldV 1 isAgg3) (k:=hV 12 k (q:=q_fl 16 fld_25_16) (k:=hV 13 k (q:=ldV 1 isAgg2) (k:=hV 14 k (q:=q_fl 3 fld_25_3) (k:=hV 15 k (q:=ldV 1 isAgg23) (k:=?_))))))))
  refine hV 16 k (q:=q_build' (v := .agg #[ii self, ii c_.sites, .slice A62 (srtI x61).length c63, ii c_.cap, ii c_.base, .slice A23 x22.length c24]) rfl (bargs6 rfl rfl rfl rfl rfl rfl) (fun w => by kernel_rfl)) (k:=wl_ 17 rfl ?_)
  have hc106 := ho100.capz
  refine seR 0 [_, _, _, _, _, _, _, _] fun Γ102 hl103 hr104 => ?_
  have hs105 := ho100.sl hl103 hr104
  have hc111 := (ho26.mono ((hl52.trans hl96).trans hl103)).capz
  refine seR 5 [_, _, _, _, _, _, _, _] fun Γ107 hl108 hr109 => ?_
  have hs110 := (ho26.mono ((hl52.trans hl96).trans hl103)).sl hl108 hr109
  obtain ⟨z112, hz113, h⟩ := bnd h
  refine ecV [7] (caV call30) (fun w hp => t_queue_Open (hd.mono ((((hl16.trans hl52).trans hl96).trans hl103).trans hl108)) c_.seg hc_.2.2.2.2.2.2.2.2.2.2.1 (⟨self, c_.sites, (srtI x61), c_.cap, c_.base, x22⟩ : Dqueue_Conf) ⟨hself, hc_.1, ⟨hc106, (hs105.mono hl108)⟩, hc_.2.2.2.2.2.2.2.2.2.2.2.1, hc_.2.2.2.2.2.2.2.2.2.2.2.2.2.2.2.2, ⟨hc111, hs110⟩⟩ hp hz113) ?_
  rintro Γ114 _ _ hl115 ⟨row118, g120, row121, rfl, rfl, hr119, hr122, hr123, _⟩
  refine cwV 115 [_, _, _, _, _, _, _, _, _] ?_
  refine WR.nil (nxV (bo_ [3, 7] ((hl103.trans hl108).trans hl115) h0101) fun k => ?_)
  refine hV 18 k (q:=moV) (k:=hV 19 k (q:=exV) (k:=hV 20 k (q:=exV) (k:=hV 21 k (q:=q_assign (v := optp z112.2.1 g120) rfl (by kernel_rfl)) (k:=hV 22 k (q:=aoV) (k:=?_)))))
  refine WH.done (by kernel_rfl) ?_
  change WC _ _ _ _ _ _
  refine WC.seq (WC.rs (mV (k:=sV q_neq (k:=WR.done ?_))))
  refine ciV h (fun hb124 h => ?_) (fun hb124 h => ?_)
  ·
   refine WC.rs (mV (k:=aV (k:=aV (k:=WR.done ?_))))
   refine WC.ret ?_
   intro w hw
   have hw := hw.pad
   exact re_ r [1, 0] h hF hw ⟨row118, 0, [], rfl, rfl, hr119, rfl, hr123, trivial⟩
  refine WC.skip (wc_ (WC.rs (mV (k:=mU (v := optp z112.2.1 g120) (k:=sV nlV (k:=sV (q_fl 19 fld_95_3) (k:=?_)))))))
  refine e_st (i := 3) (v := optp z112.2.1 g120) (new := #[ii c_.sites, .slice A18 x17.length c19, ii c_.nodes, .slice A23 x22.length c24, ii c_.n, ii c_.r, ii c_.w_, ii c_.group, .string c_.secret, ii c_.room, ii c_.seg, ii c_.cap, ii c_.pend, ii c_.wait, ii c_.timeout, ii c_.hintAfter, ii c_.base, ii self, .slice A62 (srtI x61).length c63, optp z112.2.1 g120, (pq g55), ii (ishl .i64 boot 32), .pointer none, .pointer none, .slice none 0 0, .slice none 0 0, .slice none 0 0, .map (some g58), .pointer none, .pointer none, .slice none 0 0, .slice none 0 0]) rfl sizeOf86 rfl rfl rfl rfl (by kernel_rfl) (by generalize z112.2.1 = q0_; cases q0_ <;> rfl) (by generalize z112.2.1 = q0_; cases q0_ <;> rfl) (by generalize z112.2.1 = q0_; cases q0_ <;> rfl) (by generalize z112.2.1 = q0_; cases q0_ <;> rfl) ?_
  refine WR.done (WC.rs (mV (k:=aV (k:=aV (k:=WR.done ?_)))))
  refine WC.ret ?_
  intro w hw
  have hc129 := (ho21.mono ((((hl52.trans hl96).trans hl103).trans hl108).trans hl115)).capz
  obtain ⟨Γ125, hw, hl126, hr127⟩ := hw.seal (i := 6) rfl; have hs128 := (ho21.mono ((((hl52.trans hl96).trans hl103).trans hl108).trans hl115)).sl hl126 hr127
  obtain ⟨hk131, h⟩ := chk_some h
  obtain ⟨row_130, hrow_130, hob_130⟩ : ∃ rw : Rowb, rw = ([[(gh53_, .cells #[ii c_.sites, .slice A18 x17.length c19, ii c_.nodes, .slice A23 x22.length c24, ii c_.n, ii c_.r, ii c_.w_, ii c_.group, .string c_.secret, ii c_.room, ii c_.seg, ii c_.cap, ii c_.pend, ii c_.wait, ii c_.timeout, ii c_.hintAfter, ii c_.base, ii self, .slice A62 (srtI x61).length c63, optp z112.2.1 g120, (pq g55), ii (ishl .i64 boot 32), .pointer none, .pointer none, .slice none 0 0, .slice none 0 0, .slice none 0 0, .map (some g58), .pointer none, .pointer none, .slice none 0 0, .slice none 0 0] 95 (0, 0))]] : List Rowb).flatten ∧ Osite_Site.ob 95 Γ125 gh53_ rw (⟨c_.sites, x17, c_.nodes, x22, c_.n, c_.r, c_.w_, c_.group, c_.secret, c_.room, c_.seg, c_.cap, c_.pend, c_.wait, c_.timeout, c_.hintAfter, c_.base, self, (srtI x61), (ishl .i64 boot 32)⟩ : Osite_Site) := ⟨_, rfl, A18, c19, A23, c24, A62, c63, (optp z112.2.1 g120), ((pq g55)), (.map (some g58)), rfl, hc_.1, hc129, hs128, hc_.2.2.1, hc111, (hs110.mono (hl115.trans hl126)), hc_.2.2.2.2.1, hc_.2.2.2.2.2.1, hc_.2.2.2.2.2.2.1, hc_.2.2.2.2.2.2.2.1, hc_.2.2.2.2.2.2.2.2.1, hc_.2.2.2.2.2.2.2.2.2.1, hc_.2.2.2.2.2.2.2.2.2.2.1, hc_.2.2.2.2.2.2.2.2.2.2.2.1, hc_.2.2.2.2.2.2.2.2.2.2.2.2.1, hc_.2.2.2.2.2.2.2.2.2.2.2.2.2.1, hc_.2.2.2.2.2.2.2.2.2.2.2.2.2.2.1, hc_.2.2.2.2.2.2.2.2.2.2.2.2.2.2.2.1, hc_.2.2.2.2.2.2.2.2.2.2.2.2.2.2.2.2, hself, hc106, (hs105.mono ((hl108.trans hl115).trans hl126)), (i64b_of hk131), trivial⟩
  have hw := hw.fold (is := [3]) rfl hrow_130
  obtain rfl := Option.some.inj h
  subst hF
  exact end_e (is := [1, 0]) (by kernel_rfl) hw rfl ⟨row118, gh53_, row_130, rfl, rfl, (hr119.mono hl126), hob_130, iV, trivial⟩
 refine ⟨_, rfl, ?_⟩
 refine e_makeMap (intK underlying3) prefV rfl rfl rfl rfl ?_
 intro g51 row52 hm53
 have hm53 := MapJ.new (T := (Opull_Cut.tob 321)) hm53
 refine WR.nil (nxV (bo_ [3] gR h048) fun k => ?_)
 refine wl_ 6 rfl ?_
 refine ecV [] (caV call28) (fun w hp => t_inbox_New c_.pend hc_.2.2.2.2.2.2.2.2.2.2.2.2.1 hp hz50) ?_
 rintro Γ54 _ _ hl55 ⟨g58, row59, rfl, rfl, hr60, _⟩
 refine cwV 50 [_, _, _, _, _, _] ?_
 refine WR.nil (nxV (bo_ [4] hl55 h048) fun k => ?_)
 refine hV 8 k (q:=q_build' (v := .agg #[ii c_.sites, .slice A18 x17.length c19, ii c_.nodes, .slice A23 x22.length c24, ii c_.n, ii c_.r, ii c_.w_, ii c_.group, .string c_.secret, ii c_.room, ii c_.seg, ii c_.cap, ii c_.pend, ii c_.wait, ii c_.timeout, ii c_.hintAfter, ii c_.base, ii self, .slice none 0 0, .pointer none, (pq g58), ii (ishl .i64 boot 32), .pointer none, .pointer none, .slice none 0 0, .slice none 0 0, .slice none 0 0, .map (some g51), .pointer none, .pointer none, .slice none 0 0, .slice none 0 0]) rfl (bargs5 rfl rfl rfl rfl rfl) (fun w => by kernel_rfl)) (k:=wl_ 9 rfl ?_)
 refine bxV (v := .agg #[ii c_.sites, .slice A18 x17.length c19, ii c_.nodes, .slice A23 x22.length c24, ii c_.n, ii c_.r, ii c_.w_, ii c_.group, .string c_.secret, ii c_.room, ii c_.seg, ii c_.cap, ii c_.pend, ii c_.wait, ii c_.timeout, ii c_.hintAfter, ii c_.base, ii self, .slice none 0 0, .pointer none, (pq g58), ii (ishl .i64 boot 32), .pointer none, .pointer none, .slice none 0 0, .slice none 0 0, .slice none 0 0, .map (some g51), .pointer none, .pointer none, .slice none 0 0, .slice none 0 0]) fun gh53_ => ?_
 refine WR.nil (nxV (bo_ [5] hl55 h048) fun k => ?_)
 refine hV 10 k (q:=aoV) (k:=?_)
 refine WH.done (by kernel_rfl) ?_
 change WC _ _ _ _ _ _
 refine WC.seq (WC.rs (sV (q_fl 1 fld_25_1) (k:=sV (ldV 5 isAgg22) (k:=sV (q_len_slice rfl underlying22) (k:=mV (k:=WR.done (WC.block ?_)))))))
 refine WC.forI h (fun (i67 : Nat) (x61 : List Int) σ w => ∃ (A62 : Option Addr), ∃ (c63 : Nat), ∃ (row64 : Rowb), slots σ [(1, ii self), (3, (pq gd)), (4, (pq g1)), (10, (pq gh53_)), (55, .slice A18 x17.length c19), (56, ii (x17.length : Int)), (57, ii (i67 : Int))] ∧ CC F Γ54 [row64, [(gh53_, .cells #[ii c_.sites, .slice A18 x17.length c19, ii c_.nodes, .slice A23 x22.length c24, ii c_.n, ii c_.r, ii c_.w_, ii c_.group, .string c_.secret, ii c_.room, ii c_.seg, ii c_.cap, ii c_.pend, ii c_.wait, ii c_.timeout, ii c_.hintAfter, ii c_.base, ii self, .slice A62 x61.length c63, .pointer none, (pq g58), ii (ishl .i64 boot 32), .pointer none, .pointer none, .slice none 0 0, .slice none 0 0, .slice none 0 0, .map (some g51), .pointer none, .pointer none, .slice none 0 0, .slice none 0 0] 95 (0, 0))], row59, row52, row20, row25, [(g1, .cells #[ii c_.sites, .slice A18 x17.length c19, ii c_.nodes, .slice A23 x22.length c24, ii c_.n, ii c_.r, ii c_.w_, ii c_.group, .string c_.secret, ii c_.room, ii c_.seg, ii c_.cap, ii c_.pend, ii c_.wait, ii c_.timeout, ii c_.hintAfter, ii c_.base] 25 (0, 0))], rowd] w ∧ Own intT Γ54 3 row64 A62 c63 x61 ∧ True) ?_ ?_
 ·
  intro w hw
  have hw := hw.pad
  exact ⟨none, 0, [], slK, hw, (Own.nil intT _ 3), trivial⟩
 rintro f66 i67 x61 σ w hi68 hlt69 hge70 ⟨A62, c63, row64, hsl, hw, ho65, -⟩
 refine slV hsl hw [_, _, _, _, _, _, _, _] ?_; clear hw hsl
 refine WC.rs (sV q_lss (k:=WR.done (WC.seq ?_)))
 refine coV (fun hb71 => ?_) (fun hb71 => ?_)
 ·
  have hl72 := ilt hb71
  have h := hlt69 hl72
  refine WC.skip (wc_ ?_)
  refine WC.cut (fun σ w => ∃ (x73 : List Int), ∃ (A74 : Option Addr), ∃ (c75 : Nat), ∃ (row76 : Rowb), m_site_Open_j6 f66 x73 = some r ∧ slots σ [(1, ii self), (3, (pq gd)), (4, (pq g1)), (10, (pq gh53_)), (55, .slice A18 x17.length c19), (56, ii (x17.length : Int)), (57, ii (i67 : Int))] ∧ CC F Γ54 [row76, [(gh53_, .cells #[ii c_.sites, .slice A18 x17.length c19, ii c_.nodes, .slice A23 x22.length c24, ii c_.n, ii c_.r, ii c_.w_, ii c_.group, .string c_.secret, ii c_.room, ii c_.seg, ii c_.cap, ii c_.pend, ii c_.wait, ii c_.timeout, ii c_.hintAfter, ii c_.base, ii self, .slice A74 x73.length c75, .pointer none, (pq g58), ii (ishl .i64 boot 32), .pointer none, .pointer none, .slice none 0 0, .slice none 0 0, .slice none 0 0, .map (some g51), .pointer none, .pointer none, .slice none 0 0, .slice none 0 0] 95 (0, 0))], row59, row52, row20, row25, [(g1, .cells #[ii c_.sites, .slice A18 x17.length c19, ii c_.nodes, .slice A23 x22.length c24, ii c_.n, ii c_.r, ii c_.w_, ii c_.group, .string c_.secret, ii c_.room, ii c_.seg, ii c_.cap, ii c_.pend, ii c_.wait, ii c_.timeout, ii c_.hintAfter, ii c_.base] 25 (0, 0))], rowd] w ∧ Own intT Γ54 3 row76 A74 c75 x73 ∧ True) ?_ ?_
  ·
   refine WC.block (WC.rs (sV (q_ixn (i := i67) underlying22 sizeOf81 rfl rfl rfl hl72 ((ho21.mono hl55).some_ hl72)) (k:=sV (q_ldoa (c := 0) (vs := (Dapi_arr2.cs (gt x17 i67))) (i := 4) rfl ((ho21.mono hl55).dapi_arr2T_at hl72).2 rfl isAgg81 sizeOf81 rfl rfl) (k:=?_))))
   refine alV zeroValue81 fun g78 => ?_
   refine stV 0 (.agg (Dapi_arr2.cs (gt x17 i67)).toArray) (Dapi_arr2.cs (gt x17 i67)).toArray sizeOf81 (k:=WR.done (WC.rs (sV (q_ixa_ (0) underlying81 sizeOf3 rfl rfl rfl rfl rfl) (k:=sV (ldV 0 isAgg3) (k:=mV (k:=sV q_eql (k:=WR.done ?_)))))))
   refine ciV h (fun hb79 h => ?_) (fun hb79 h => ?_)
   ·
    refine leV fun h080 => ?_
    refine held_ (CC F Γ54 [[(g78, .cells (Dapi_arr2.cs (gt x17 i67)).toArray 81 (0, 0))], [(g1, .cells #[ii c_.sites, .slice A18 x17.length c19, ii c_.nodes, .slice A23 x22.length c24, ii c_.n, ii c_.r, ii c_.w_, ii c_.group, .string c_.secret, ii c_.room, ii c_.seg, ii c_.cap, ii c_.pend, ii c_.wait, ii c_.timeout, ii c_.hintAfter, ii c_.base] 25 (0, 0))]]) (bo_ [0, 6] gR h080) fun k => ?_
    change WH _ _ _ _ (CC F Γ54 [_, _, _, _, _, _, _, _, _]) _ 12 _ _
    refine hV 0 k (q:=moV) (k:=hV 1 k (q:=moV) (k:=hV 2 k (q:=nlV) (k:=hV 3 k (q:=q_fl 18 fld_95_2) (k:=hV 5 k (q:=q_ixa_ (1) underlying81 sizeOf3 rfl rfl rfl rfl rfl) (k:=hV 6 k (q:=ldV 0 isAgg3) (k:=?_))))))
    refine WH.each (l := [4, 7]) (by kernel_rfl) (by simp) ?_
    intro i hi; simp only [List.mem_cons, List.not_mem_nil, or_false] at hi
    rcases hi with rfl | rfl
    ·
     refine ⟨_, rfl, ?_⟩
     refine sV (ldV 2 isAgg23) (k:=?_)
     refine WR.nil (nxV (bo_ [0, 6] gR h080) fun k => ?_)
     refine wl_ 7 rfl ?_
     refine bsV #[ii (gt x17 i67).a1] 3 fun g81 => ?_
     refine WR.nil (nxV (bo_ [1, 7] gR h080) fun k => ?_)
     refine wl_ 8 rfl ?_
     obtain ⟨hk82, h⟩ := chk_some h
     refine apV 2 [(gt x17 i67).a1] elem_23 ho65 (of_decide_eq_true hk82) (fun w hw => src_one (i := 0) rfl (by exact ⟨rfl, ((ho21.mono hl55).dapi_arr2T_at hl72).1.2⟩) hw) ?_
     intro row83 A84 c85 ho86
     refine WR.nil (nxV (bo_ [1, 7] gR h080) fun k => ?_)
     refine hV 9 k (q:=nlV) (k:=hV 10 k (q:=q_fl 18 fld_95_2) (k:=wl_ 11 rfl (stV 3 (.slice A84 (x61 ++ [(gt x17 i67).a1]).length c85) #[ii c_.sites, .slice A18 x17.length c19, ii c_.nodes, .slice A23 x22.length c24, ii c_.n, ii c_.r, ii c_.w_, ii c_.group, .string c_.secret, ii c_.room, ii c_.seg, ii c_.cap, ii c_.pend, ii c_.wait, ii c_.timeout, ii c_.hintAfter, ii c_.base, ii self, .slice A84 (x61 ++ [(gt x17 i67).a1]).length c85, .pointer none, (pq g58), ii (ishl .i64 boot 32), .pointer none, .pointer none, .slice none 0 0, .slice none 0 0, .slice none 0 0, .map (some g51), .pointer none, .pointer none, .slice none 0 0, .slice none 0 0] sizeOf23 (k:=?_))))
     refine WR.nil (nxV (bo_ [1, 7] gR h080) fun k => ?_)
     refine WH.done (by kernel_rfl) ?_
     intro w hw
     exact ⟨(x61 ++ [(gt x17 i67).a1]), A84, c85, row83, h, slK, (hw.on [2, 2, 2, 2, 2, 2, 2, 2]), ho86, trivial⟩
    refine ⟨_, rfl, ?_⟩
    refine bsV #[ii (gt x17 i67).a1] 3 fun g81 => ?_
    refine WR.nil (nxV (bo_ [1, 7] gR h080) fun k => ?_)
    refine wl_ 4 rfl (sV (ldV 3 isAgg23) (k:=?_))
    refine WR.nil (nxV (bo_ [1, 7] gR h080) fun k => ?_)
    refine wl_ 8 rfl ?_
    obtain ⟨hk82, h⟩ := chk_some h
    refine apV 2 [(gt x17 i67).a1] elem_23 ho65 (of_decide_eq_true hk82) (fun w hw => src_one (i := 0) rfl (by exact ⟨rfl, ((ho21.mono hl55).dapi_arr2T_at hl72).1.2⟩) hw) ?_
    intro row83 A84 c85 ho86
    refine WR.nil (nxV (bo_ [1, 7] gR h080) fun k => ?_)
    refine hV 9 k (q:=nlV) (k:=hV 10 k (q:=q_fl 18 fld_95_2) (k:=wl_ 11 rfl (stV 3 (.slice A84 (x61 ++ [(gt x17 i67).a1]).length c85) #[ii c_.sites, .slice A18 x17.length c19, ii c_.nodes, .slice A23 x22.length c24, ii c_.n, ii c_.r, ii c_.w_, ii c_.group, .string c_.secret, ii c_.room, ii c_.seg, ii c_.cap, ii c_.pend, ii c_.wait, ii c_.timeout, ii c_.hintAfter, ii c_.base, ii self, .slice A84 (x61 ++ [(gt x17 i67).a1]).length c85, .pointer none, (pq g58), ii (ishl .i64 boot 32), .pointer none, .pointer none, .slice none 0 0, .slice none 0 0, .slice none 0 0, .map (some g51), .pointer none, .pointer none, .slice none 0 0, .slice none 0 0] sizeOf23 (k:=?_))))
    refine WR.nil (nxV (bo_ [1, 7] gR h080) fun k => ?_)
    refine WH.done (by kernel_rfl) ?_
    intro w hw
    exact ⟨(x61 ++ [(gt x17 i67).a1]), A84, c85, row83, h, slK, (hw.on [2, 2, 2, 2, 2, 2, 2, 2]), ho86, trivial⟩
   refine WC.rs (sV (q_ixa_ (1) underlying81 sizeOf3 rfl rfl rfl rfl rfl) (k:=sV (ldV 0 isAgg3) (k:=mV (k:=sV q_eql (k:=WR.done ?_)))))
   refine ciV h (fun hb87 h => ?_) (fun hb87 h => ?_)
   ·
    refine leV fun h088 => ?_
    refine held_ (CC F Γ54 [[(g78, .cells (Dapi_arr2.cs (gt x17 i67)).toArray 81 (0, 0))], [(g1, .cells #[ii c_.sites, .slice A18 x17.length c19, ii c_.nodes, .slice A23 x22.length c24, ii c_.n, ii c_.r, ii c_.w_, ii c_.group, .string c_.secret, ii c_.room, ii c_.seg, ii c_.cap, ii c_.pend, ii c_.wait, ii c_.timeout, ii c_.hintAfter, ii c_.base] 25 (0, 0))]]) (bo_ [0, 6] gR h088) fun k => ?_
    change WH _ _ _ _ (CC F Γ54 [_, _, _, _, _, _, _, _, _]) _ 12 _ _
    refine hV 0 k (q:=moV) (k:=hV 1 k (q:=moV) (k:=hV 2 k (q:=nlV) (k:=hV 3 k (q:=q_fl 18 fld_95_2) (k:=hV 5 k (q:=q_ixa_ (0) underlying81 sizeOf3 rfl rfl rfl rfl rfl) (k:=hV 6 k (q:=ldV 0 isAgg3) (k:=?_))))))
    refine WH.each (l := [4, 7]) (by kernel_rfl) (by simp) ?_
    intro i hi; simp only [List.mem_cons, List.not_mem_nil, or_false] at hi
    rcases hi with rfl | rfl
    ·
     refine ⟨_, rfl, ?_⟩
     refine sV (ldV 2 isAgg23) (k:=?_)
     refine WR.nil (nxV (bo_ [0, 6] gR h088) fun k => ?_)
     refine wl_ 7 rfl ?_
     refine bsV #[ii (gt x17 i67).a0] 3 fun g89 => ?_
     refine WR.nil (nxV (bo_ [1, 7] gR h088) fun k => ?_)
     refine wl_ 8 rfl ?_
     obtain ⟨hk90, h⟩ := chk_some h
     refine apV 2 [(gt x17 i67).a0] elem_23 ho65 (of_decide_eq_true hk90) (fun w hw => src_one (i := 0) rfl (by exact ⟨rfl, ((ho21.mono hl55).dapi_arr2T_at hl72).1.1⟩) hw) ?_
     intro row91 A92 c93 ho94
     refine WR.nil (nxV (bo_ [1, 7] gR h088) fun k => ?_)
     refine hV 9 k (q:=nlV) (k:=hV 10 k (q:=q_fl 18 fld_95_2) (k:=wl_ 11 rfl (stV 3 (.slice A92 (x61 ++ [(gt x17 i67).a0]).length c93) #[ii c_.sites, .slice A18 x17.length c19, ii c_.nodes, .slice A23 x22.length c24, ii c_.n, ii c_.r, ii c_.w_, ii c_.group, .string c_.secret, ii c_.room, ii c_.seg, ii c_.cap, ii c_.pend, ii c_.wait, ii c_.timeout, ii c_.hintAfter, ii c_.base, ii self, .slice A92 (x61 ++ [(gt x17 i67).a0]).length c93, .pointer none, (pq g58), ii (ishl .i64 boot 32), .pointer none, .pointer none, .slice none 0 0, .slice none 0 0, .slice none 0 0, .map (some g51), .pointer none, .pointer none, .slice none 0 0, .slice none 0 0] sizeOf23 (k:=?_))))
     refine WR.nil (nxV (bo_ [1, 7] gR h088) fun k => ?_)
     refine WH.done (by kernel_rfl) ?_
     intro w hw
     exact ⟨(x61 ++ [(gt x17 i67).a0]), A92, c93, row91, h, slK, (hw.on [2, 2, 2, 2, 2, 2, 2, 2]), ho94, trivial⟩
    refine ⟨_, rfl, ?_⟩
    refine bsV #[ii (gt x17 i67).a0] 3 fun g89 => ?_
    refine WR.nil (nxV (bo_ [1, 7] gR h088) fun k => ?_)
    refine wl_ 4 rfl (sV (ldV 3 isAgg23) (k:=?_))
    refine WR.nil (nxV (bo_ [1, 7] gR h088) fun k => ?_)
    refine wl_ 8 rfl ?_
    obtain ⟨hk90, h⟩ := chk_some h
    refine apV 2 [(gt x17 i67).a0] elem_23 ho65 (of_decide_eq_true hk90) (fun w hw => src_one (i := 0) rfl (by exact ⟨rfl, ((ho21.mono hl55).dapi_arr2T_at hl72).1.1⟩) hw) ?_
    intro row91 A92 c93 ho94
    refine WR.nil (nxV (bo_ [1, 7] gR h088) fun k => ?_)
    refine hV 9 k (q:=nlV) (k:=hV 10 k (q:=q_fl 18 fld_95_2) (k:=wl_ 11 rfl (stV 3 (.slice A92 (x61 ++ [(gt x17 i67).a0]).length c93) #[ii c_.sites, .slice A18 x17.length c19, ii c_.nodes, .slice A23 x22.length c24, ii c_.n, ii c_.r, ii c_.w_, ii c_.group, .string c_.secret, ii c_.room, ii c_.seg, ii c_.cap, ii c_.pend, ii c_.wait, ii c_.timeout, ii c_.hintAfter, ii c_.base, ii self, .slice A92 (x61 ++ [(gt x17 i67).a0]).length c93, .pointer none, (pq g58), ii (ishl .i64 boot 32), .pointer none, .pointer none, .slice none 0 0, .slice none 0 0, .slice none 0 0, .map (some g51), .pointer none, .pointer none, .slice none 0 0, .slice none 0 0] sizeOf23 (k:=?_))))
    refine WR.nil (nxV (bo_ [1, 7] gR h088) fun k => ?_)
    refine WH.done (by kernel_rfl) ?_
    intro w hw
    exact ⟨(x61 ++ [(gt x17 i67).a0]), A92, c93, row91, h, slK, (hw.on [2, 2, 2, 2, 2, 2, 2, 2]), ho94, trivial⟩
   refine WC.skip ?_
   intro w hw
   exact ⟨x61, A62, c63, row64, h, slK, (hw.on [1, 1, 1, 1, 1, 1, 1, 1]), ho65, trivial⟩
  rintro σ w ⟨x73, A74, c75, row76, h, hsl, hw, ho77, -⟩
  refine slV hsl hw [_, _, _, _, _, _, _, _] ?_; clear hw hsl
  refine WC.region ?_
  refine sV (q_add_r rfl rfl rfl (ctr_len hl72 (ho21.mono hl55).le)) (k:=mV (k:=?_))
  refine WR.nil ?_
  intro w hw
  exact ⟨hl72, x73, h, A74, c75, row76, slK, hw, ho77, trivial⟩
 have h := hge70 (ige hb71)
 refine WC.exit ?_
 change WC _ _ _ _ _ _
 refine WC.rs (mV (k:=sV nlV (k:=sV (q_fl 18 fld_95_2) (k:=sV (ldV 1 isAgg23) (k:=?_)))))
 refine ecV [0] (caV call29) (fun w hp => sort_ints srt29 ho65 hp) ?_
 rintro Γ95 _ _ hl96 ⟨rfl, row99, rfl, ho100⟩
 refine cwV 96 [_, _, _, _, _, _, _, _] ?_
 rw [show Value.slice A62 (x61.length) c63 = Value.slice A62 ((srtI x61).length) c63 from by first | (rw [(srtI_len _)]; done) | (rw [(srtI_len _)]; rfl)]
 refine WR.done (WC.seq ?_)
 refine leV fun h0101 => ?_
 refine held_ (CC F Γ95 [[(gh53_, .cells #[ii c_.sites, .slice A18 x17.length c19, ii c_.nodes, .slice A23 x22.length c24, ii c_.n, ii c_.r, ii c_.w_, ii c_.group, .string c_.secret, ii c_.room, ii c_.seg, ii c_.cap, ii c_.pend, ii c_.wait, ii c_.timeout, ii c_.hintAfter, ii c_.base, ii self, .slice A62 (srtI x61).length c63, .pointer none, (pq g58), ii (ishl .i64 boot 32), .pointer none, .pointer none, .slice none 0 0, .slice none 0 0, .slice none 0 0, .map (some g51), .pointer none, .pointer none, .slice none 0 0, .slice none 0 0] 95 (0, 0))], [(g1, .cells #[ii c_.sites, .slice A18 x17.length c19, ii c_.nodes, .slice A23 x22.length c24, ii c_.n, ii c_.r, ii c_.w_, ii c_.group, .string c_.secret, ii c_.room, ii c_.seg, ii c_.cap, ii c_.pend, ii c_.wait, ii c_.timeout, ii c_.hintAfter, ii c_.base] 25 (0, 0))]]) (bo_ [1, 5] gR h0101) fun k => ?_
 change WH _ _ _ _ (CC F Γ95 [_, _, _, _, _, _, _, _]) _ 23 _ _
 refine hV 0 k (q:=moV) (k:=hV 1 k (q:=q_fl 10 fld_25_10) (k:=hV 2 k (q:=ldV 1 isAgg3) (k:=hV 3 k (q:=moV) (k:=hV 4 k (q:=q_fl 0 fld_25_0) (k:=hV 5 k (q:=ldV 1 isAgg3) (k:=hV 6 k (q:=moV) (k:=hV 7 k (q:=nlV) (k:=?_))))))))
 refine hV 8 k (q:=q_fl 18 fld_95_2) (k:=hV 9 k (q:=ldV 0 isAgg23) (k:=hV 10 k (q:=q_fl 11 fld_25_11) (k:=hV 11 k (q:=ldV 1 isAgg3) (k:=hV 12 k (q:=q_fl 16 fld_25_16) (k:=hV 13 k (q:=ldV 1 isAgg2) (k:=hV 14 k (q:=q_fl 3 fld_25_3) (k:=hV 15 k (q:=ldV 1 isAgg23) (k:=?_))))))))
 refine hV 16 k (q:=q_build' (v := .agg #[ii self, ii c_.sites, .slice A62 (srtI x61).length c63, ii c_.cap, ii c_.base, .slice A23 x22.length c24]) rfl (bargs6 rfl rfl rfl rfl rfl rfl) (fun w => by kernel_rfl)) (k:=wl_ 17 rfl ?_)
 have hc106 := ho100.capz
 refine seR 0 [_, _, _, _, _, _, _, _] fun Γ102 hl103 hr104 => ?_
 have hs105 := ho100.sl hl103 hr104
 have hc111 := (ho26.mono ((hl55.trans hl96).trans hl103)).capz
 refine seR 5 [_, _, _, _, _, _, _, _] fun Γ107 hl108 hr109 => ?_
 have hs110 := (ho26.mono ((hl55.trans hl96).trans hl103)).sl hl108 hr109
 obtain ⟨z112, hz113, h⟩ := bnd h
 refine ecV [7] (caV call30) (fun w hp => t_queue_Open (hd.mono ((((hl16.trans hl55).trans hl96).trans hl103).trans hl108)) c_.seg hc_.2.2.2.2.2.2.2.2.2.2.1 (⟨self, c_.sites, (srtI x61), c_.cap, c_.base, x22⟩ : Dqueue_Conf) ⟨hself, hc_.1, ⟨hc106, (hs105.mono hl108)⟩, hc_.2.2.2.2.2.2.2.2.2.2.2.1, hc_.2.2.2.2.2.2.2.2.2.2.2.2.2.2.2.2, ⟨hc111, hs110⟩⟩ hp hz113) ?_
 rintro Γ114 _ _ hl115 ⟨row118, g120, row121, rfl, rfl, hr119, hr122, hr123, _⟩
 refine cwV 115 [_, _, _, _, _, _, _, _, _] ?_
 refine WR.nil (nxV (bo_ [3, 7] ((hl103.trans hl108).trans hl115) h0101) fun k => ?_)
 refine hV 18 k (q:=moV) (k:=hV 19 k (q:=exV) (k:=hV 20 k (q:=exV) (k:=hV 21 k (q:=q_assign (v := optp z112.2.1 g120) rfl (by kernel_rfl)) (k:=hV 22 k (q:=aoV) (k:=?_)))))
 refine WH.done (by kernel_rfl) ?_
 change WC _ _ _ _ _ _
 refine WC.seq (WC.rs (mV (k:=sV q_neq (k:=WR.done ?_))))
 refine ciV h (fun hb124 h => ?_) (fun hb124 h => ?_)
 ·
  refine WC.rs (mV (k:=aV (k:=aV (k:=WR.done ?_))))
  refine WC.ret ?_
  intro w hw
  have hw := hw.pad
  exact re_ r [1, 0] h hF hw ⟨row118, 0, [], rfl, rfl, hr119, rfl, hr123, trivial⟩
 refine WC.skip (wc_ (WC.rs (mV (k:=mU (v := optp z112.2.1 g120) (k:=sV nlV (k:=sV (q_fl 19 fld_95_3) (k:=?_)))))))
 refine e_st (i := 3) (v := optp z112.2.1 g120) (new := #[ii c_.sites, .slice A18 x17.length c19, ii c_.nodes, .slice A23 x22.length c24, ii c_.n, ii c_.r, ii c_.w_, ii c_.group, .string c_.secret, ii c_.room, ii c_.seg, ii c_.cap, ii c_.pend, ii c_.wait, ii c_.timeout, ii c_.hintAfter, ii c_.base, ii self, .slice A62 (srtI x61).length c63, optp z112.2.1 g120, (pq g58), ii (ishl .i64 boot 32), .pointer none, .pointer none, .slice none 0 0, .slice none 0 0, .slice none 0 0, .map (some g51), .pointer none, .pointer none, .slice none 0 0, .slice none 0 0]) rfl sizeOf86 rfl rfl rfl rfl (by kernel_rfl) (by generalize z112.2.1 = q0_; cases q0_ <;> rfl) (by generalize z112.2.1 = q0_; cases q0_ <;> rfl) (by generalize z112.2.1 = q0_; cases q0_ <;> rfl) (by generalize z112.2.1 = q0_; cases q0_ <;> rfl) ?_
 refine WR.done (WC.rs (mV (k:=aV (k:=aV (k:=WR.done ?_)))))
 refine WC.ret ?_
 intro w hw
 have hc129 := (ho21.mono ((((hl55.trans hl96).trans hl103).trans hl108).trans hl115)).capz
 obtain ⟨Γ125, hw, hl126, hr127⟩ := hw.seal (i := 6) rfl; have hs128 := (ho21.mono ((((hl55.trans hl96).trans hl103).trans hl108).trans hl115)).sl hl126 hr127
 obtain ⟨hk131, h⟩ := chk_some h
 obtain ⟨row_130, hrow_130, hob_130⟩ : ∃ rw : Rowb, rw = ([[(gh53_, .cells #[ii c_.sites, .slice A18 x17.length c19, ii c_.nodes, .slice A23 x22.length c24, ii c_.n, ii c_.r, ii c_.w_, ii c_.group, .string c_.secret, ii c_.room, ii c_.seg, ii c_.cap, ii c_.pend, ii c_.wait, ii c_.timeout, ii c_.hintAfter, ii c_.base, ii self, .slice A62 (srtI x61).length c63, optp z112.2.1 g120, (pq g58), ii (ishl .i64 boot 32), .pointer none, .pointer none, .slice none 0 0, .slice none 0 0, .slice none 0 0, .map (some g51), .pointer none, .pointer none, .slice none 0 0, .slice none 0 0] 95 (0, 0))]] : List Rowb).flatten ∧ Osite_Site.ob 95 Γ125 gh53_ rw (⟨c_.sites, x17, c_.nodes, x22, c_.n, c_.r, c_.w_, c_.group, c_.secret, c_.room, c_.seg, c_.cap, c_.pend, c_.wait, c_.timeout, c_.hintAfter, c_.base, self, (srtI x61), (ishl .i64 boot 32)⟩ : Osite_Site) := ⟨_, rfl, A18, c19, A23, c24, A62, c63, (optp z112.2.1 g120), ((pq g58)), (.map (some g51)), rfl, hc_.1, hc129, hs128, hc_.2.2.1, hc111, (hs110.mono (hl115.trans hl126)), hc_.2.2.2.2.1, hc_.2.2.2.2.2.1, hc_.2.2.2.2.2.2.1, hc_.2.2.2.2.2.2.2.1, hc_.2.2.2.2.2.2.2.2.1, hc_.2.2.2.2.2.2.2.2.2.1, hc_.2.2.2.2.2.2.2.2.2.2.1, hc_.2.2.2.2.2.2.2.2.2.2.2.1, hc_.2.2.2.2.2.2.2.2.2.2.2.2.1, hc_.2.2.2.2.2.2.2.2.2.2.2.2.2.1, hc_.2.2.2.2.2.2.2.2.2.2.2.2.2.2.1, hc_.2.2.2.2.2.2.2.2.2.2.2.2.2.2.2.1, hc_.2.2.2.2.2.2.2.2.2.2.2.2.2.2.2.2, hself, hc106, (hs105.mono ((hl108.trans hl115).trans hl126)), (i64b_of hk131), trivial⟩
 have hw := hw.fold (is := [3]) rfl hrow_130
 obtain rfl := Option.some.inj h
 subst hF
 exact end_e (is := [1, 0]) (by kernel_rfl) hw rfl ⟨row118, gh53_, row_130, rfl, rfl, (hr119.mono hl126), hob_130, iV, trivial⟩
theorem t_firthref12_Right {Amembers : Option Addr} {cmembers : Nat} {members : List Int} (hmembers : Sl intT Γ Amembers members) (hmembersc : members.length ≤ cmembers) (hs : Sat Γ w0) {r : Bool} (h : m_firthref12_Right members = some r) : CQ Tryz.prog 31 #[.slice Amembers members.length cmembers] w0 (.bool r) := by
 refine goQ [2] func31 ntmps31 results31 hs fun F hF => ?_
 refine WC.rs (aV (k:=WR.done (WC.seq (WC.rs (mV (k:=sV (q_len_slice rfl underlying23) (k:=sV q_lss (k:=?_))))))))
 refine mV (k:=vG0 (h:=fun hg1 => moV) (k:=vG0 (h:=fun hg2 => q_len_slice rfl underlying23 (grV hg2)) (k:=vG0 (h:=fun hg3 => q_gtr rfl (grV hg3)) (k:=sV pkO (k:=WR.done ?_)))))
 refine ciV h (fun hb4 h => ?_) (fun hb4 h => ?_)
 ·
  refine WC.rs (aV (k:=WR.done ?_))
  exact WC.ret fun w hw => rq_ r h hF hw
 refine WC.skip (wc_ (WC.seq (WC.rs (aV (k:=WR.done (WC.block ?_))))))
 refine WC.forI h (fun (i6 : Nat) (s : Unit) σ w => match s with | () => slots σ [(0, .slice Amembers members.length cmembers), (3, ii (i6 : Int))] ∧ CC F Γ [] w ∧ True) ?_ ?_
 ·
  intro w hw
  exact ⟨slK, hw, trivial⟩
 rintro f5 i6 ⟨⟩ σ w hi7 hlt8 hge9 ⟨hsl, hw, -⟩
 refine slV hsl hw [] ?_; clear hw hsl
 refine WC.seq (WC.rs (mV (k:=mV (k:=sV (q_len_slice rfl underlying23) (k:=sV q_lss (k:=WR.done ?_))))))
 refine coV (fun hb10 => ?_) (fun hb10 => ?_)
 ·
  have hl11 := ilt hb10
  have h := hlt8 hl11
  refine WC.skip (wc_ (WC.seq (WC.block (WC.seq (WC.rs (mV (k:=mV (k:=?_))))))))
  refine sV (q_ixn (i := i6) underlying23 sizeOf3 rfl rfl rfl hl11 (hmembers.some_ hl11)) (k:=sV (q_ld (c := 0) (v := ii (gt members i6)) (hmembers.intT_at hl11).2 rfl isAgg3 rfl rfl) (k:=sV q_lss (k:=mV (k:=vG0 (h:=fun hg12 => moV) (k:=vG0 (h:=fun hg13 => moV) (k:=vG0 (h:=fun hg14 => q_ixn (i := i6) underlying23 sizeOf3 rfl (grV hg14) (grV hg14) hl11 (hmembers.some_ hl11)) (k:=vG0 (h:=fun hg15 => q_ld (c := 0) (v := ii (gt members i6)) (hmembers.intT_at hl11).2 rfl isAgg3 (grV hg15) rfl) (k:=?_))))))))
  refine vG0 (h:=fun hg16 => q_gtr rfl (grV hg16)) (k:=sV pkO (k:=WR.done ?_))
  refine ciV h (fun hb17 h => ?_) (fun hb17 h => ?_)
  ·
   refine WC.rs (aV (k:=WR.done ?_))
   exact WC.ret fun w hw => rq_ r h hF hw
  refine WC.skip (wc_ (WC.seq ?_))
  refine drV ?_
  refine zV moV (k:=zV q_gtr (k:=zV moV (k:=wG1 (h:=fun hg18 => moV) (k:=wG1 (h:=fun hg19 => moV) (k:=wG1 (h:=fun hg20 => q_ixn (i := i6) underlying23 sizeOf3 rfl (grV hg20) (grV hg20) hl11 (hmembers.some_ hl11)) (k:=wG1 (h:=fun hg21 => q_ld (c := 0) (v := ii (gt members i6)) (hmembers.intT_at hl11).2 rfl isAgg3 (grV hg21) rfl) (k:=wG1 (h:=fun hg22 => moV) (k:=?_))))))))
  refine wG1 (h:=fun hg23 => moV) (k:=wG1 (h:=fun hg24 => q_sub rfl (grV hg24)) (k:=?_))
  obtain ⟨hk26, h⟩ := chk_some h
  refine wG1 (h:=fun hg25 => q_ix underlying23 sizeOf3 rfl (grV hg25) (grV hg25) (imp_of hk26 hg25) (hmembers.some_ (inb_lt (imp_of hk26 hg25)))) (k:=wG1 (h:=fun hg27 => q_ld (c := 0) (v := ii (gt members ((w64 ((i6 : Int) - 1)).toNat))) (hmembers.intT_at (inb_lt (imp_of hk26 hg27))).2 rfl isAgg3 (grV hg27) rfl) (k:=wG1 (h:=fun hg28 => q_leq rfl (grV hg28) (grV hg28)) (k:=zV pkA (k:=?_))))
  refine WQ.nil ?_
  change WC _ _ _ _ _ _
  refine ciV h (fun hb29 h => ?_) (fun hb29 h => ?_)
  ·
   refine WC.rs (aV (k:=WR.done ?_))
   exact WC.ret fun w hw => rq_ r h hF hw
  refine WC.skip (wc_ ?_)
  refine WC.region ?_
  refine mV (k:=sV (q_add_r rfl rfl rfl (ctr_len hl11 hmembers.le)) (k:=aV (k:=?_)))
  refine WR.nil ?_
  intro w hw
  exact ⟨hl11, (), h, slK, hw, trivial⟩
 have h := hge9 (ige hb10)
 refine WC.exit ?_
 change WC _ _ _ _ _ _
 refine WC.rs (aV (k:=WR.done ?_))
 exact WC.ret fun w hw => rq_ r h hF hw
theorem t_firthref20_Right {Ac_1 : Option Addr} {cc_1 : Nat} {Ac_3 : Option Addr} {cc_3 : Nat} (c_ : Dapi_Conf) (hc_ : Dapi_Conf.fits Γ Ac_1 cc_1 Ac_3 cc_3 c_) (hs : Sat Γ w0) {r : Bool} (h : m_firthref20_Right c_ = some r) : CQ Tryz.prog 9 #[.agg (Dapi_Conf.cs Ac_1 cc_1 Ac_3 cc_3 c_).toArray] w0 (.bool r) := by
 refine goQ [2] func9 ntmps9 results9 hs fun F hF => ?_
 refine WC.rs ?_
 refine bxV (v := .agg (Dapi_Conf.cs Ac_1 cc_1 Ac_3 cc_3 c_).toArray) fun g1 => ?_
 refine aV (k:=WR.done (WC.seq (WC.rs (aV (k:=WR.done (WC.block ?_))))))
 refine WC.forI h (fun (i3 : Nat) (s : Unit) σ w => match s with | () => slots σ [(1, (pq g1)), (3, ii (i3 : Int))] ∧ CC F Γ [[(g1, .cells (Dapi_Conf.cs Ac_1 cc_1 Ac_3 cc_3 c_).toArray 25 (0, 0))]] w ∧ True) ?_ ?_
 ·
  intro w hw
  exact ⟨slK, hw, trivial⟩
 rintro f2 i3 ⟨⟩ σ w hi4 hlt5 hge6 ⟨hsl, hw, -⟩
 refine slV hsl hw [_] ?_; clear hw hsl
 refine WC.seq (WC.rs (mV (k:=sV (q_fl 1 fld_25_1) (k:=sV (ldV 0 isAgg22) (k:=sV (q_len_slice rfl underlying22) (k:=sV q_lss (k:=WR.done ?_)))))))
 refine coV (fun hb7 => ?_) (fun hb7 => ?_)
 ·
  have hl8 := ilt hb7
  have h := hlt5 hl8
  refine WC.skip (wc_ (WC.seq (WC.block (WC.rs (sV (q_fl 1 fld_25_1) (k:=sV (ldV 0 isAgg22) (k:=mV (k:=?_))))))))
  refine sV (q_ixn (i := i3) underlying22 sizeOf81 rfl rfl rfl hl8 (hc_.2.1.2.some_ hl8)) (k:=sV (q_lda (c := 0) (vs := (Dapi_arr2.cs (gt c_.links i3))) (hc_.2.1.2.dapi_arr2T_at hl8).2 rfl isAgg81 sizeOf81 rfl rfl rfl) (k:=?_))
  refine alV zeroValue81 fun g9 => ?_
  refine stV 0 (.agg (Dapi_arr2.cs (gt c_.links i3)).toArray) (Dapi_arr2.cs (gt c_.links i3)).toArray sizeOf81 (k:=WR.done (WC.seq (WC.rs (sV (q_ixa_ (0) underlying81 sizeOf3 rfl rfl rfl rfl rfl) (k:=sV (ldV 0 isAgg3) (k:=sV q_lss (k:=mV (k:=?_))))))))
  refine vG0 (h:=fun hg10 => q_ixa_ (1) underlying81 sizeOf3 rfl rfl rfl rfl rfl) (k:=vG0 (h:=fun hg11 => ldV 0 isAgg3 (hx:=grV hg11)) (k:=vG0 (h:=fun hg12 => q_fl 0 fld_25_0) (k:=vG0 (h:=fun hg13 => ldV 1 isAgg3 (hx:=grV hg13)) (k:=vG0 (h:=fun hg14 => q_gtr rfl (grV hg14) (grV hg14)) (k:=sV pkO (k:=mV (k:=vG0 (h:=fun hg15 => q_ixa_ (0) underlying81 sizeOf3 rfl rfl rfl rfl rfl) (k:=?_))))))))
  refine vG0 (h:=fun hg16 => ldV 0 isAgg3 (hx:=grV hg16)) (k:=vG0 (h:=fun hg17 => q_ixa_ (1) underlying81 sizeOf3 rfl rfl rfl rfl rfl) (k:=vG0 (h:=fun hg18 => ldV 0 isAgg3 (hx:=grV hg18)) (k:=vG0 (h:=fun hg19 => q_geq rfl (grV hg19) (grV hg19)) (k:=sV pkO (k:=WR.done ?_)))))
  refine ciV h (fun hb20 h => ?_) (fun hb20 h => ?_)
  ·
   refine WC.rs (aV (k:=WR.done ?_))
   exact WC.ret fun w hw => rq_ r h hF hw
  refine WC.skip (wc_ (WC.rs (aV (k:=WR.done (WC.block ?_)))))
  refine WC.forU h (fun (i22 : Nat) (s : Unit) σ w => match s with | () => slots σ [(1, (pq g1)), (3, ii (i3 : Int)), (4, (pq g9)), (5, ii (i22 : Int))] ∧ CC F Γ [[(g9, .cells (Dapi_arr2.cs (gt c_.links i3)).toArray 81 (0, 0))], [(g1, .cells (Dapi_Conf.cs Ac_1 cc_1 Ac_3 cc_3 c_).toArray 25 (0, 0))]] w ∧ True) ?_ ?_
  ·
   intro w hw
   exact ⟨slK, hw, trivial⟩
  rintro f21 i22 ⟨⟩ σ w hi23 hlt24 hge25 ⟨hsl, hw, -⟩
  refine slV hsl hw [_, _] ?_; clear hw hsl
  refine WC.seq (WC.rs (mV (k:=mV (k:=sV q_lss (k:=WR.done ?_)))))
  refine coV (fun hb26 => ?_) (fun hb26 => ?_)
  ·
   have hl27 := ilt hb26
   have h := hlt24 hl27
   refine WC.skip (wc_ (WC.seq (WC.block (WC.seq ?_))))
   refine drV ?_
   refine zV (q_fl 1 fld_25_1) (k:=zV (ldV 1 isAgg22) (k:=zV moV (k:=?_)))
   obtain ⟨hk28, h⟩ := chk_some h
   refine zV (q_ixn (i := i22) underlying22 sizeOf81 rfl rfl rfl (of_decide_eq_true hk28) (hc_.2.1.2.some_ (of_decide_eq_true hk28))) (k:=zV (q_lda (c := 0) (vs := (Dapi_arr2.cs (gt c_.links i22))) (hc_.2.1.2.dapi_arr2T_at (of_decide_eq_true hk28)).2 rfl isAgg81 sizeOf81 rfl rfl rfl) (k:=zV (ldaV 0 (Dapi_arr2.cs (gt c_.links i3)) isAgg81 sizeOf81) (k:=zV (q_eql_Dapi_arr2 (a := (gt c_.links i22)) (b := (gt c_.links i3)) rfl rfl rfl) (k:=?_))))
   refine WQ.nil ?_
   change WC _ _ _ _ _ _
   refine ciV h (fun hb29 h => ?_) (fun hb29 h => ?_)
   ·
    refine WC.rs (aV (k:=WR.done ?_))
    exact WC.ret fun w hw => rq_ r h hF hw
   refine WC.skip (wc_ ?_)
   refine WC.region ?_
   refine mV (k:=sV (q_add_r rfl rfl rfl (ctr_len hl27 (Nat.le_trans (Nat.le_of_lt hl8) hc_.2.1.2.le))) (k:=aV (k:=?_)))
   refine WR.nil ?_
   intro w hw
   exact ⟨hl27, (), h, slK, hw, trivial⟩
  have h := hge25 (ige hb26)
  refine WC.exit ?_
  change WC _ _ _ _ _ _
  refine WC.region ?_
  refine mV (k:=sV (q_add_r rfl rfl rfl (ctr_len hl8 hc_.2.1.2.le)) (k:=aV (k:=?_)))
  refine WR.nil ?_
  intro w hw
  exact ⟨hl8, (), h, slK, (hw.on [1]), trivial⟩
 have h := hge6 (ige hb7)
 refine WC.exit ?_
 change WC _ _ _ _ _ _
 refine WC.seq (WC.seq ?_)
 refine drV ?_
 refine zV (q_fl 0 fld_25_0) (k:=zV (ldV 0 isAgg3) (k:=zV q_lss (k:=zV moV (k:=wG0 (h:=fun hg30 => q_fl 0 fld_25_0) (k:=wG0 (h:=fun hg31 => ldV 0 isAgg3 (hx:=grV hg31)) (k:=wG0 (h:=fun hg32 => q_gtr rfl (grV hg32)) (k:=zV pkO (k:=?_))))))))
 refine zV moV (k:=wG0 (h:=fun hg33 => q_fl 2 fld_25_2) (k:=wG0 (h:=fun hg34 => ldV 0 isAgg3 (hx:=grV hg34)) (k:=wG0 (h:=fun hg35 => q_lss rfl (grV hg35)) (k:=zV pkO (k:=zV moV (k:=wG0 (h:=fun hg36 => q_fl 2 fld_25_2) (k:=wG0 (h:=fun hg37 => ldV 0 isAgg3 (hx:=grV hg37)) (k:=?_))))))))
 refine wG0 (h:=fun hg38 => q_gtr rfl (grV hg38)) (k:=zV pkO (k:=zV moV (k:=wG0 (h:=fun hg39 => q_fl 3 fld_25_3) (k:=wG0 (h:=fun hg40 => ldV 0 isAgg23 (hx:=grV hg40)) (k:=?_)))))
 obtain ⟨z42, hz43, h⟩ := bnd h
 refine wC0 (h:=fun hg41 => q_call (call_run call31 rfl rfl (args1 (grV hg41))) (fun w hw => t_firthref12_Right (Γ := Gh.all w) (hc_.2.2.2.1.2.mono hw.sat.le_all) hc_.2.2.2.1.1 (Sat.all w) (gc_of hz43 hg41))) (k:=wG0 (h:=fun hg44 => q_not rfl (grV hg44)) (k:=zV pkO (k:=zV moV (k:=wG0 (h:=fun hg45 => q_fl 3 fld_25_3) (k:=wG0 (h:=fun hg46 => ldV 0 isAgg23 (hx:=grV hg46)) (k:=wG0 (h:=fun hg47 => q_fl 3 fld_25_3) (k:=wG0 (h:=fun hg48 => ldV 0 isAgg23 (hx:=grV hg48)) (k:=?_))))))))
 refine wG0 (h:=fun hg49 => q_len_slice rfl underlying23 (grV hg49)) (k:=wG0 (h:=fun hg50 => q_sub rfl (grV hg50)) (k:=?_))
 obtain ⟨hk52, h⟩ := chk_some h
 refine wG0 (h:=fun hg51 => q_ix underlying23 sizeOf3 rfl (grV hg51) (grV hg51) (imp_of hk52 hg51) (hc_.2.2.2.1.2.some_ (inb_lt (imp_of hk52 hg51)))) (k:=wG0 (h:=fun hg53 => q_ld (c := 0) (v := ii (gt c_.members ((w64 ((c_.members.length : Int) - 1)).toNat))) (hc_.2.2.2.1.2.intT_at (inb_lt (imp_of hk52 hg53))).2 rfl isAgg3 (grV hg53) rfl) (k:=wG0 (h:=fun hg54 => q_fl 2 fld_25_2) (k:=wG0 (h:=fun hg55 => ldV 0 isAgg3 (hx:=grV hg55)) (k:=wG0 (h:=fun hg56 => q_gtr rfl (grV hg56) (grV hg56)) (k:=zV pkO (k:=?_))))))
 refine WQ.nil ?_
 change WC _ _ _ _ _ _
 refine ciV h (fun hb57 h => ?_) (fun hb57 h => ?_)
 ·
  refine WC.rs (aV (k:=WR.done ?_))
  exact WC.ret fun w hw => rq_ r h hF hw
 refine WC.skip (wc_ (WC.seq (WC.rs (sV (q_fl 4 fld_25_4) (k:=sV (ldV 0 isAgg3) (k:=sV q_lss (k:=mV (k:=?_))))))))
 refine vG0 (h:=fun hg58 => q_fl 4 fld_25_4) (k:=vG0 (h:=fun hg59 => ldV 0 isAgg3 (hx:=grV hg59)) (k:=vG0 (h:=fun hg60 => q_fl 3 fld_25_3) (k:=vG0 (h:=fun hg61 => ldV 0 isAgg23 (hx:=grV hg61)) (k:=vG0 (h:=fun hg62 => q_len_slice rfl underlying23 (grV hg62)) (k:=vG0 (h:=fun hg63 => q_gtr rfl (grV hg63) (grV hg63)) (k:=sV pkO (k:=mV (k:=?_))))))))
 refine vG0 (h:=fun hg64 => q_fl 5 fld_25_5) (k:=vG0 (h:=fun hg65 => ldV 0 isAgg3 (hx:=grV hg65)) (k:=vG0 (h:=fun hg66 => q_lss rfl (grV hg66)) (k:=sV pkO (k:=mV (k:=vG0 (h:=fun hg67 => q_fl 5 fld_25_5) (k:=vG0 (h:=fun hg68 => ldV 0 isAgg3 (hx:=grV hg68)) (k:=vG0 (h:=fun hg69 => q_fl 4 fld_25_4) (k:=?_))))))))
 refine vG0 (h:=fun hg70 => ldV 0 isAgg3 (hx:=grV hg70)) (k:=vG0 (h:=fun hg71 => q_gtr rfl (grV hg71) (grV hg71)) (k:=sV pkO (k:=mV (k:=vG0 (h:=fun hg72 => q_fl 6 fld_25_6) (k:=vG0 (h:=fun hg73 => ldV 0 isAgg3 (hx:=grV hg73)) (k:=vG0 (h:=fun hg74 => q_lss rfl (grV hg74)) (k:=sV pkO (k:=?_))))))))
 refine mV (k:=vG0 (h:=fun hg75 => q_fl 6 fld_25_6) (k:=vG0 (h:=fun hg76 => ldV 0 isAgg3 (hx:=grV hg76)) (k:=vG0 (h:=fun hg77 => q_fl 4 fld_25_4) (k:=vG0 (h:=fun hg78 => ldV 0 isAgg3 (hx:=grV hg78)) (k:=vG0 (h:=fun hg79 => q_gtr rfl (grV hg79) (grV hg79)) (k:=sV pkO (k:=mV (k:=?_))))))))
 refine vG0 (h:=fun hg80 => q_fl 5 fld_25_5) (k:=vG0 (h:=fun hg81 => ldV 0 isAgg3 (hx:=grV hg81)) (k:=vG0 (h:=fun hg82 => q_fl 6 fld_25_6) (k:=vG0 (h:=fun hg83 => ldV 0 isAgg3 (hx:=grV hg83)) (k:=vG0 (h:=fun hg84 => q_add rfl (grV hg84) (grV hg84)) (k:=vG0 (h:=fun hg85 => q_fl 4 fld_25_4) (k:=vG0 (h:=fun hg86 => ldV 0 isAgg3 (hx:=grV hg86)) (k:=vG0 (h:=fun hg87 => q_leq rfl (grV hg87) (grV hg87)) (k:=?_))))))))
 refine sV pkO (k:=WR.done ?_)
 refine ciV h (fun hb88 h => ?_) (fun hb88 h => ?_)
 ·
  refine WC.rs (aV (k:=WR.done ?_))
  exact WC.ret fun w hw => rq_ r h hF hw
 refine WC.skip (wc_ (WC.seq (WC.rs (sV (q_fl 7 fld_25_7) (k:=sV (ldV 0 isAgg2) (k:=sV q_lss (k:=mV (k:=?_))))))))
 refine vG0 (h:=fun hg89 => q_fl 8 fld_25_8) (k:=vG0 (h:=fun hg90 => ldV 0 isAgg9 (hx:=grV hg90)) (k:=vG0 (h:=fun hg91 => q_seql rfl (grV hg91)) (k:=sV pkO (k:=mV (k:=vG0 (h:=fun hg92 => q_fl 8 fld_25_8) (k:=vG0 (h:=fun hg93 => ldV 0 isAgg9 (hx:=grV hg93)) (k:=vG0 (h:=fun hg94 => q_len_str rfl underlying9 (grV hg94)) (k:=?_))))))))
 refine vG0 (h:=fun hg95 => q_gtr rfl (grV hg95)) (k:=sV pkO (k:=mV (k:=vG0 (h:=fun hg96 => q_fl 9 fld_25_9) (k:=vG0 (h:=fun hg97 => ldV 0 isAgg3 (hx:=grV hg97)) (k:=vG0 (h:=fun hg98 => q_lss rfl (grV hg98)) (k:=sV pkO (k:=mV (k:=?_))))))))
 refine vG0 (h:=fun hg99 => q_fl 11 fld_25_11) (k:=vG0 (h:=fun hg100 => ldV 0 isAgg3 (hx:=grV hg100)) (k:=vG0 (h:=fun hg101 => q_lss rfl (grV hg101)) (k:=sV pkO (k:=mV (k:=vG0 (h:=fun hg102 => q_fl 11 fld_25_11) (k:=vG0 (h:=fun hg103 => ldV 0 isAgg3 (hx:=grV hg103)) (k:=vG0 (h:=fun hg104 => q_gtr rfl (grV hg104)) (k:=?_))))))))
 refine sV pkO (k:=mV (k:=vG0 (h:=fun hg105 => q_fl 12 fld_25_12) (k:=vG0 (h:=fun hg106 => ldV 0 isAgg3 (hx:=grV hg106)) (k:=vG0 (h:=fun hg107 => q_lss rfl (grV hg107)) (k:=sV pkO (k:=mV (k:=vG0 (h:=fun hg108 => q_fl 13 fld_25_13) (k:=?_))))))))
 refine vG0 (h:=fun hg109 => ldV 0 isAgg3 (hx:=grV hg109)) (k:=vG0 (h:=fun hg110 => q_lss rfl (grV hg110)) (k:=sV pkO (k:=WR.done ?_)))
 refine ciV h (fun hb111 h => ?_) (fun hb111 h => ?_)
 ·
  refine WC.rs (aV (k:=WR.done ?_))
  exact WC.ret fun w hw => rq_ r h hF hw
 refine WC.skip (wc_ (WC.rs (sV (q_fl 14 fld_25_14) (k:=sV (ldV 0 isAgg3) (k:=sV q_geq (k:=mV (k:=vG1 (h:=fun hg112 => q_fl 14 fld_25_14) (k:=?_))))))))
 refine vG1 (h:=fun hg113 => ldV 0 isAgg3 (hx:=grV hg113)) (k:=vG1 (h:=fun hg114 => q_leq rfl (grV hg114)) (k:=sV pkA (k:=mV (k:=vG1 (h:=fun hg115 => q_fl 15 fld_25_15) (k:=vG1 (h:=fun hg116 => ldV 0 isAgg3 (hx:=grV hg116)) (k:=vG1 (h:=fun hg117 => q_geq rfl (grV hg117)) (k:=sV pkA (k:=?_))))))))
 refine mV (k:=vG1 (h:=fun hg118 => q_fl 16 fld_25_16) (k:=vG1 (h:=fun hg119 => ldV 0 isAgg2 (hx:=grV hg119)) (k:=vG1 (h:=fun hg120 => q_geq rfl (grV hg120)) (k:=sV pkA (k:=mV (k:=vG1 (h:=fun hg121 => q_fl 16 fld_25_16) (k:=vG1 (h:=fun hg122 => ldV 0 isAgg2 (hx:=grV hg122)) (k:=?_))))))))
 refine vG1 (h:=fun hg123 => q_leq rfl (grV hg123)) (k:=sV pkA (k:=aV (k:=WR.done ?_)))
 exact WC.ret fun w hw => rq_ r h hF hw
theorem t_firthlaw20_awake {Γ : Gh} {w0 : World} (hs : Sat Γ w0) {r : Bool} (h : m_firthlaw20_awake = some r) : Calls Tryz.prog 10 #[] w0 (fun e w' => e = .returned (.bool r) ∧ Fr no w0 w') := by
  cases h
  exact awake_told hs
theorem t_firthlaw20_SiteConfs {Ac_1 : Option Addr} {cc_1 : Nat} {Ac_3 : Option Addr} {cc_3 : Nat} (c_ : Dapi_Conf) (hc_ : Dapi_Conf.fits Γ Ac_1 cc_1 Ac_3 cc_3 c_) (self : Int) (hself : I64 self) (boot : Int) (hboot : I64 boot) (hs : Sat Γ w0) {r : Bool} (h : m_firthlaw20_SiteConfs c_ self boot = some r) : CQ Tryz.prog 3 #[.agg (Dapi_Conf.cs Ac_1 cc_1 Ac_3 cc_3 c_).toArray, ii self, ii boot] w0 (.bool r) := by
 refine goQ [6] func3 ntmps3 results3 hs fun F hF => ?_
 refine WC.rs ?_
 refine bxV (v := .agg (Dapi_Conf.cs Ac_1 cc_1 Ac_3 cc_3 c_).toArray) fun g1 => ?_
 refine aV (k:=WR.done (WC.seq ?_))
 refine leV fun h02 => ?_
 refine held_ (CC F Γ [[(g1, .cells (Dapi_Conf.cs Ac_1 cc_1 Ac_3 cc_3 c_).toArray 25 (0, 0))]]) (bo_ [0] gR h02) fun k => ?_
 change WH _ _ _ _ (CC F Γ [_]) _ 10 _ _
 refine hV 0 k (q:=ldaV 0 (Dapi_Conf.cs Ac_1 cc_1 Ac_3 cc_3 c_) isAgg25 sizeOf25) (k:=hV 1 k (q:=moV) (k:=hV 2 k (q:=moV) (k:=wl_ 3 rfl ?_)))
 obtain ⟨z3, hz4, h⟩ := bnd h
 refine ecV [] (caV call8) (fun w hp => t_disk_New 4096 iV hp hz4) ?_
 rintro Γ5 _ _ hl6 ⟨g9, row10, rfl, rfl, hr11, _⟩
 refine cwV 14 [_, _] ?_
 refine WR.nil (nxV (bo_ [1] hl6 h02) fun k => ?_)
 refine wl_ 4 rfl ?_
 obtain ⟨z12, hz13, h⟩ := bnd h
 refine ecV [0] (caV call7) (fun w hp => t_site_Open c_ (Dapi_Conf.fits_mono hc_ hl6) self hself boot hboot hr11 hp hz13) ?_
 rintro Γ14 _ _ hl15 ⟨row18, g20, row21, rfl, rfl, hr19, hr22, hr23, _⟩
 refine cwV 15 [_, _, _] ?_
 refine WR.nil (nxV (bo_ [2] (hl6.trans hl15) h02) fun k => ?_)
 refine hV 5 k (q:=moV) (k:=hV 6 k (q:=exV) (k:=hV 7 k (q:=exV) (k:=hV 8 k (q:=q_assign (v := optp z12.2.1 g20) rfl (by kernel_rfl)) (k:=hV 9 k (q:=aoV) (k:=?_)))))
 refine WH.done (by kernel_rfl) ?_
 change WC _ _ _ _ _ _
 refine WC.rs (sV (ldaV 2 (Dapi_Conf.cs Ac_1 cc_1 Ac_3 cc_3 c_) isAgg25 sizeOf25) (k:=?_))
 obtain ⟨z24, hz25, h⟩ := bnd h
 refine vqV (caV call9) (fun w hw => t_firthref20_Right (Γ := Gh.all w) c_ (Dapi_Conf.fits_mono (Dapi_Conf.fits_mono hc_ (hl6.trans hl15)) hw.sat.le_all) (Sat.all w) hz25) (k:=mV (k:=vG1 (h:=fun hg26 => moV) (k:=vG1 (h:=fun hg27 => q_geq rfl (grV hg27)) (k:=sV pkA (k:=mV (k:=vG1 (h:=fun hg28 => moV) (k:=vG1 (h:=fun hg29 => q_fl 0 fld_25_0) (k:=?_))))))))
 refine vG1 (h:=fun hg30 => ldV 2 isAgg3 (hx:=grV hg30)) (k:=vG1 (h:=fun hg31 => q_leq rfl (grV hg31) (grV hg31)) (k:=sV pkA (k:=mV (k:=vG1 (h:=fun hg32 => moV) (k:=vG1 (h:=fun hg33 => q_geq rfl (grV hg33)) (k:=sV pkA (k:=mV (k:=?_))))))))
 refine vG1 (h:=fun hg34 => moV) (k:=vG1 (h:=fun hg35 => q_lss rfl (grV hg35)) (k:=sV pkA (k:=aV (k:=WR.done (WC.seq ?_)))))
 refine drV ?_
 obtain ⟨z36, hz37, h⟩ := bnd h
 refine wc rfl rfl rfl (q_call (caV call10) (fun w hw => t_firthlaw20_awake (Γ := Gh.all w)  (Sat.all w) hz37)) (zV moV (k:=wG1 (h:=fun hg38 => ldaV 2 (Dapi_Conf.cs Ac_1 cc_1 Ac_3 cc_3 c_) isAgg25 sizeOf25) (k:=?_)))
 obtain ⟨z40, hz41, h⟩ := bnd h
 refine wC1 (h:=fun hg39 => q_call (call_run call11 rfl rfl (args1 (grV hg39))) (fun w hw => t_site_Right (Γ := Gh.all w) c_ (Dapi_Conf.fits_mono (Dapi_Conf.fits_mono hc_ (hl6.trans hl15)) hw.sat.le_all) (Sat.all w) (gc_of hz41 hg39))) (k:=wG1 (h:=fun hg42 => ldaV 2 (Dapi_Conf.cs Ac_1 cc_1 Ac_3 cc_3 c_) isAgg25 sizeOf25) (k:=?_))
 obtain ⟨z44, hz45, h⟩ := bnd h
 refine wC1 (h:=fun hg43 => q_call (call_run call9 rfl rfl (args1 (grV hg43))) (fun w hw => t_firthref20_Right (Γ := Gh.all w) c_ (Dapi_Conf.fits_mono (Dapi_Conf.fits_mono hc_ (hl6.trans hl15)) hw.sat.le_all) (Sat.all w) (gc_of hz45 hg43))) (k:=wG1 (h:=fun hg46 => q_beql underlying4 rfl (grV hg46) (grV hg46)) (k:=zV pkA (k:=zV moV (k:=wG1 (h:=fun hg47 => q_move (v := optp z12.2.1 g20) rfl (by kernel_rfl)) (k:=wG1 (h:=fun hg48 => q_opt_neq underlying26 rfl (grV hg48) rfl) (k:=wG1 (h:=fun hg49 => moV) (k:=wG1 (h:=fun hg50 => q_beql underlying4 rfl (grV hg50) (grV hg50)) (k:=?_))))))))
 refine zV pkA (k:=zV moV (k:=wG1 (h:=fun hg51 => moV) (k:=wG1 (h:=fun hg52 => q_eql rfl (grV hg52)) (k:=wG1 (h:=fun hg53 => moV) (k:=wG1 (h:=fun hg54 => q_beql underlying4 rfl (grV hg54) (grV hg54)) (k:=zV pkA (k:=zV moV (k:=?_))))))))
 refine wG1 (h:=fun hg55 => moV) (k:=wG1 (h:=fun hg56 => q_move (v := .bool ((((z24 && (decide (1 ≤ self))) && (decide (self ≤ c_.sites))) && (decide (0 ≤ boot))) && (decide (boot < 1073741824)))) rfl (grV hg56)) (k:=wh0 (c0 := (((z36 && (z40 == z44)) && ((!(Option.isNone z12.2.1)) == ((((z24 && (decide (1 ≤ self))) && (decide (self ≤ c_.sites))) && (decide (0 ≤ boot))) && (decide (boot < 1073741824))))) && ((z12.2.2 == 0) == ((((z24 && (decide (1 ≤ self))) && (decide (self ≤ c_.sites))) && (decide (0 ≤ boot))) && (decide (boot < 1073741824)))))) (g := ((((z24 && (decide (1 ≤ self))) && (decide (self ≤ c_.sites))) && (decide (0 ≤ boot))) && (decide (boot < 1073741824)))) rfl rfl rfl rfl rfl (fun _ => QV.qo moV) (wh0 (c0 := (((z36 && (z40 == z44)) && ((!(Option.isNone z12.2.1)) == ((((z24 && (decide (1 ≤ self))) && (decide (self ≤ c_.sites))) && (decide (0 ≤ boot))) && (decide (boot < 1073741824))))) && ((z12.2.2 == 0) == ((((z24 && (decide (1 ≤ self))) && (decide (self ≤ c_.sites))) && (decide (0 ≤ boot))) && (decide (boot < 1073741824)))))) (g := ((((z24 && (decide (1 ≤ self))) && (decide (self ≤ c_.sites))) && (decide (0 ≤ boot))) && (decide (boot < 1073741824)))) rfl rfl rfl rfl rfl (fun hg58 => QV.qo (q_eql rfl (grV hg58))) ?_)))
 refine wG1 (h:=fun hg59 => q_pick rfl (grV hg59) (pk_or (c := (((z36 && (z40 == z44)) && ((!(Option.isNone z12.2.1)) == ((((z24 && (decide (1 ≤ self))) && (decide (self ≤ c_.sites))) && (decide (0 ≤ boot))) && (decide (boot < 1073741824))))) && ((z12.2.2 == 0) == ((((z24 && (decide (1 ≤ self))) && (decide (self ≤ c_.sites))) && (decide (0 ≤ boot))) && (decide (boot < 1073741824)))))) (g := ((((z24 && (decide (1 ≤ self))) && (decide (self ≤ c_.sites))) && (decide (0 ≤ boot))) && (decide (boot < 1073741824)))) (y := (z12.2.2 == 205)) hg59)) (k:=zV pkA (k:=zV aoV (k:=?_)))
 refine WQ.nil ?_
 change WC _ _ _ _ _ _
 exact WC.ret fun w hw => rq_ r h hF hw
end Fw
end Go.Proofs.YtogmioecalmalaaGreat
