/- Walks through the functions that the law reaches (printed by a program). No condition. -/
import Derived.Test.YtogmioecalmalaaGreatW1
namespace Go.Proofs.YtogmioecalmalaaGreat
namespace Fw
set_option linter.unusedVariables false
set_option linter.unusedSimpArgs false
set_option linter.unusedSectionVars false
set_option maxRecDepth 100000
set_option maxHeartbeats 400000
open Go.RowKit
open Go.Proofs.Tryz
variable {Γ : Gh} {w0 : World}
abbrev sk (gd : Nat) (ed : Nat) (r : aa × (Option au) × Int) (U : List Rowb) (Γ : Gh) (v : Value) : Prop := ∃ (rowd' : Rowb), ∃ (g0 : Nat), ∃ (row0 : Rowb), v = .tuple #[optp r.2.1 g0, .int .i64 r.2.2] ∧ U = [rowd', row0] ∧ aa.ob ed Γ gd rowd' r.1 ∧ qd (au.ob (95, gd) Γ g0) row0 r.2.1 ∧ I64 r.2.2 ∧ True
theorem rI {Ac_1 : Option Addr} {cc_1 : Nat} {Ac_3 : Option Addr} {cc_3 : Nat} (c_ : aC) (hc_ : aC.fits Γ Ac_1 cc_1 Ac_3 cc_3 c_) (self : Int) (hself : I64 self) (boot : Int) (hboot : I64 boot) {gd ed : Nat} {rowd : Rowb} {d : aa} (hd : aa.ob ed Γ gd rowd d) (hp : Pre [rowd] Γ w0) {r : aa × (Option au) × Int} (h : k0 c_ self boot d = some r) : Calls Tryz.prog 7 #[.agg (aC.cs Ac_1 cc_1 Ac_3 cc_3 c_).toArray, ii self, ii boot, (pq gd)] w0 (Outc Γ [rowd] w0 (sk gd ed r)) := by
 refine goV [8, 9] func7 ntmps7 results7 hp fun F hF => ?_
 refine WC.rs ?_
 refine bxV (v := .agg (aC.cs Ac_1 cc_1 Ac_3 cc_3 c_).toArray) fun g1 => ?_
 refine aV (k:=aV (k:=WR.done (WC.seq (WC.rs (sV (ldaV 0 (aC.cs Ac_1 cc_1 Ac_3 cc_3 c_) isAgg25 sizeOf25) (k:=?_))))))
 obtain ⟨z2, hz3, h⟩ := bnd h
 refine vqV (caV call11) (fun w hw => qK (Γ := Gh.all w) c_ (aC.fits_mono hc_ hw.sat.le_all) (Sat.all w) hz3) (k:=sV dJ (k:=mV (k:=vG0 (h:=fun hg4 => moV) (k:=vG0 (h:=fun hg5 => aI rfl (grV hg5)) (k:=sV pkO (k:=mV (k:=vG0 (h:=fun hg6 => moV) (k:=?_))))))))
 refine vG0 (h:=fun hg7 => q_fl 0 iU) (k:=vG0 (h:=fun hg8 => ldV 0 isAgg3 (hx:=grV hg8)) (k:=vG0 (h:=fun hg9 => bJ rfl (grV hg9) (grV hg9)) (k:=sV pkO (k:=mV (k:=vG0 (h:=fun hg10 => moV) (k:=vG0 (h:=fun hg11 => aI rfl (grV hg11)) (k:=sV pkO (k:=?_))))))))
 refine mV (k:=vG0 (h:=fun hg12 => moV) (k:=vG0 (h:=fun hg13 => bX rfl (grV hg13)) (k:=sV pkO (k:=WR.done ?_))))
 refine ciV h (fun hb14 h => ?_) (fun hb14 h => ?_)
 ·
  refine WC.rs (aV (k:=aV (k:=WR.done ?_)))
  refine WC.ret ?_
  intro w hw
  have hw := hw.pad
  exact re_ r [2, 0] h hF hw ⟨rowd, 0, [], rfl, rfl, hd, rfl, iV, trivial⟩
 refine WC.skip (wc_ ?_)
 refine WC.cut (fun σ w => ∃ (x17 : List al), ∃ (x22 : List Int), ∃ (Γ15 : Gh), ∃ (A18 : Option Addr), ∃ (c19 : Nat), ∃ (row20 : Rowb), ∃ (A23 : Option Addr), ∃ (c24 : Nat), ∃ (row25 : Rowb), jC c_ self boot d x17 x22 = some r ∧ slots σ [(1, ii self), (2, ii boot), (3, (pq gd)), (4, (pq g1))] ∧ CC F Γ15 [row20, row25, [(g1, .cells #[ii c_.sites, .slice A18 x17.length c19, ii c_.nodes, .slice A23 x22.length c24, ii c_.n, ii c_.r, ii c_.w_, ii c_.group, .string c_.secret, ii c_.room, ii c_.seg, ii c_.cap, ii c_.pend, ii c_.wait, ii c_.timeout, ii c_.hintAfter, ii c_.base] 25 (0, 0))], rowd] w ∧ Gh.le Γ Γ15 ∧ Own bC Γ15 81 row20 A18 c19 x17 ∧ Own intT Γ15 3 row25 A23 c24 x22 ∧ True) ?_ ?_
 ·
  refine leV fun h027 => ?_
  refine dM (CC F Γ []) (bo_ [] gR h027) fun k => ?_
  change WH _ _ _ _ (CC F Γ [_, _]) _ 10 _ _
  refine hV 0 k (q:=q_fl 1 eu) (k:=hV 3 k (q:=q_fl 3 ey) (k:=?_))
  refine WH.each (l := [1, 4]) (by kernel_rfl) (by simp) ?_
  intro i hi; simp only [List.mem_cons, List.not_mem_nil, or_false] at hi
  rcases hi with rfl | rfl
  ·
   refine ⟨_, rfl, ?_⟩
   refine sV (ldV 0 isAgg22) (k:=?_)
   refine WR.nil (nxV (bo_ [] gR h027) fun k => ?_)
   obtain ⟨z28, hz29, h⟩ := bnd h
   refine WH.each (l := [2, 4]) (by kernel_rfl) (by simp) ?_
   intro i hi; simp only [List.mem_cons, List.not_mem_nil, or_false] at hi
   rcases hi with rfl | rfl
   ·
    refine ⟨_, rfl, ?_⟩
    refine ecV [] (caV call26) (fun w hp => cG hc_.2.1.2 hc_.2.1.1 hp hz29) ?_
    rintro Γ30 _ _ hl31 ⟨A34, c35, row36, rfl, rfl, hr37, _⟩
    refine cwV 38 [_, _, _] ?_
    refine WR.nil (nxV (bo_ [] hl31 h027) fun k => ?_)
    refine wl_ 4 rfl (sV (ldV 1 isAgg23) (k:=?_))
    refine WR.nil (nxV (bo_ [] hl31 h027) fun k => ?_)
    refine hV 6 k (q:=q_fl 1 eu) (k:=wl_ 5 rfl ?_)
    obtain ⟨z38, hz39, h⟩ := bnd h
    refine ecV [] (caV call27) (fun w hp => bn (hc_.2.2.2.1.2.mono hl31) hc_.2.2.2.1.1 hp hz39) ?_
    rintro Γ40 _ _ hl41 ⟨A44, c45, row46, rfl, rfl, hr47, _⟩
    refine cwV 41 [_, _, _, _] ?_
    refine WR.nil (nxV (bo_ [] (hl31.trans hl41) h027) fun k => ?_)
    refine wl_ 7 rfl (stV 2 (.slice A34 z28.length c35) #[ii c_.sites, .slice A34 z28.length c35, ii c_.nodes, .slice Ac_3 c_.members.length cc_3, ii c_.n, ii c_.r, ii c_.w_, ii c_.group, .string c_.secret, ii c_.room, ii c_.seg, ii c_.cap, ii c_.pend, ii c_.wait, ii c_.timeout, ii c_.hintAfter, ii c_.base] sizeOf22 (k:=?_))
    refine WR.nil (nxV (bo_ [] (hl31.trans hl41) h027) fun k => ?_)
    refine hV 8 k (q:=q_fl 3 ey) (k:=wl_ 9 rfl (stV 2 (.slice A44 z38.length c45) #[ii c_.sites, .slice A34 z28.length c35, ii c_.nodes, .slice A44 z38.length c45, ii c_.n, ii c_.r, ii c_.w_, ii c_.group, .string c_.secret, ii c_.room, ii c_.seg, ii c_.cap, ii c_.pend, ii c_.wait, ii c_.timeout, ii c_.hintAfter, ii c_.base] sizeOf23 (k:=?_)))
    refine WR.nil (nxV (bo_ [] (hl31.trans hl41) h027) fun k => ?_)
    refine WH.done (by kernel_rfl) ?_
    intro w hw
    exact ⟨z28, z38, Γ40, A34, c35, row36, A44, c45, row46, h, slK, (hw.on [1, 0, 0, 0]), (hl31.trans hl41), (hr37.mono hl41), hr47, trivial⟩
   refine ⟨_, rfl, ?_⟩
   refine sV (ldV 0 isAgg23) (k:=?_)
   refine WR.nil (nxV (bo_ [] gR h027) fun k => ?_)
   refine wl_ 2 rfl ?_
   refine ecV [] (caV call26) (fun w hp => cG hc_.2.1.2 hc_.2.1.1 hp hz29) ?_
   rintro Γ30 _ _ hl31 ⟨A34, c35, row36, rfl, rfl, hr37, _⟩
   refine cwV 38 [_, _, _] ?_
   refine WR.nil (nxV (bo_ [] hl31 h027) fun k => ?_)
   refine hV 6 k (q:=q_fl 1 eu) (k:=wl_ 5 rfl ?_)
   obtain ⟨z38, hz39, h⟩ := bnd h
   refine ecV [] (caV call27) (fun w hp => bn (hc_.2.2.2.1.2.mono hl31) hc_.2.2.2.1.1 hp hz39) ?_
   rintro Γ40 _ _ hl41 ⟨A44, c45, row46, rfl, rfl, hr47, _⟩
   refine cwV 41 [_, _, _, _] ?_
   refine WR.nil (nxV (bo_ [] (hl31.trans hl41) h027) fun k => ?_)
   refine wl_ 7 rfl (stV 2 (.slice A34 z28.length c35) #[ii c_.sites, .slice A34 z28.length c35, ii c_.nodes, .slice Ac_3 c_.members.length cc_3, ii c_.n, ii c_.r, ii c_.w_, ii c_.group, .string c_.secret, ii c_.room, ii c_.seg, ii c_.cap, ii c_.pend, ii c_.wait, ii c_.timeout, ii c_.hintAfter, ii c_.base] sizeOf22 (k:=?_))
   refine WR.nil (nxV (bo_ [] (hl31.trans hl41) h027) fun k => ?_)
   refine hV 8 k (q:=q_fl 3 ey) (k:=wl_ 9 rfl (stV 2 (.slice A44 z38.length c45) #[ii c_.sites, .slice A34 z28.length c35, ii c_.nodes, .slice A44 z38.length c45, ii c_.n, ii c_.r, ii c_.w_, ii c_.group, .string c_.secret, ii c_.room, ii c_.seg, ii c_.cap, ii c_.pend, ii c_.wait, ii c_.timeout, ii c_.hintAfter, ii c_.base] sizeOf23 (k:=?_)))
   refine WR.nil (nxV (bo_ [] (hl31.trans hl41) h027) fun k => ?_)
   refine WH.done (by kernel_rfl) ?_
   intro w hw
   exact ⟨z28, z38, Γ40, A34, c35, row36, A44, c45, row46, h, slK, (hw.on [1, 0, 0, 0]), (hl31.trans hl41), (hr37.mono hl41), hr47, trivial⟩
  refine ⟨_, rfl, ?_⟩
  refine sV (ldV 0 isAgg23) (k:=?_)
  refine WR.nil (nxV (bo_ [] gR h027) fun k => ?_)
  refine wl_ 1 rfl (sV (ldV 0 isAgg22) (k:=?_))
  refine WR.nil (nxV (bo_ [] gR h027) fun k => ?_)
  refine wl_ 2 rfl ?_
  obtain ⟨z28, hz29, h⟩ := bnd h
  refine ecV [] (caV call26) (fun w hp => cG hc_.2.1.2 hc_.2.1.1 hp hz29) ?_
  rintro Γ30 _ _ hl31 ⟨A34, c35, row36, rfl, rfl, hr37, _⟩
  refine cwV 38 [_, _, _] ?_
  refine WR.nil (nxV (bo_ [] hl31 h027) fun k => ?_)
  refine hV 6 k (q:=q_fl 1 eu) (k:=wl_ 5 rfl ?_)
  obtain ⟨z38, hz39, h⟩ := bnd h
  refine ecV [] (caV call27) (fun w hp => bn (hc_.2.2.2.1.2.mono hl31) hc_.2.2.2.1.1 hp hz39) ?_
  rintro Γ40 _ _ hl41 ⟨A44, c45, row46, rfl, rfl, hr47, _⟩
  refine cwV 41 [_, _, _, _] ?_
  refine WR.nil (nxV (bo_ [] (hl31.trans hl41) h027) fun k => ?_)
  refine wl_ 7 rfl (stV 2 (.slice A34 z28.length c35) #[ii c_.sites, .slice A34 z28.length c35, ii c_.nodes, .slice Ac_3 c_.members.length cc_3, ii c_.n, ii c_.r, ii c_.w_, ii c_.group, .string c_.secret, ii c_.room, ii c_.seg, ii c_.cap, ii c_.pend, ii c_.wait, ii c_.timeout, ii c_.hintAfter, ii c_.base] sizeOf22 (k:=?_))
  refine WR.nil (nxV (bo_ [] (hl31.trans hl41) h027) fun k => ?_)
  refine hV 8 k (q:=q_fl 3 ey) (k:=wl_ 9 rfl (stV 2 (.slice A44 z38.length c45) #[ii c_.sites, .slice A34 z28.length c35, ii c_.nodes, .slice A44 z38.length c45, ii c_.n, ii c_.r, ii c_.w_, ii c_.group, .string c_.secret, ii c_.room, ii c_.seg, ii c_.cap, ii c_.pend, ii c_.wait, ii c_.timeout, ii c_.hintAfter, ii c_.base] sizeOf23 (k:=?_)))
  refine WR.nil (nxV (bo_ [] (hl31.trans hl41) h027) fun k => ?_)
  refine WH.done (by kernel_rfl) ?_
  intro w hw
  exact ⟨z28, z38, Γ40, A34, c35, row36, A44, c45, row46, h, slK, (hw.on [1, 0, 0, 0]), (hl31.trans hl41), (hr37.mono hl41), hr47, trivial⟩
 rintro σ w ⟨x17, x22, Γ15, A18, c19, row20, A23, c24, row25, h, hsl, hw, hl16, ho21, ho26, -⟩
 refine slV hsl hw [_, _, _, _] ?_; clear hw hsl
 refine WC.seq ?_
 refine leV fun h048 => ?_
 refine dM (CC F Γ15 [[(g1, .cells #[ii c_.sites, .slice A18 x17.length c19, ii c_.nodes, .slice A23 x22.length c24, ii c_.n, ii c_.r, ii c_.w_, ii c_.group, .string c_.secret, ii c_.room, ii c_.seg, ii c_.cap, ii c_.pend, ii c_.wait, ii c_.timeout, ii c_.hintAfter, ii c_.base] 25 (0, 0))]]) (bo_ [2] gR h048) fun k => ?_
 change WH _ _ _ _ (CC F Γ15 [_, _, _, _]) _ 11 _ _
 refine hV 0 k (q:=ldaV 0 [ii c_.sites, .slice A18 x17.length c19, ii c_.nodes, .slice A23 x22.length c24, ii c_.n, ii c_.r, ii c_.w_, ii c_.group, .string c_.secret, ii c_.room, ii c_.seg, ii c_.cap, ii c_.pend, ii c_.wait, ii c_.timeout, ii c_.hintAfter, ii c_.base] isAgg25 sizeOf25) (k:=hV 1 k (q:=moV) (k:=hV 2 k (q:=moV) (k:=hV 3 k (q:=wN rfl rfl rfl (by decide)) (k:=hV 4 k (q:=q_fl 12 q9) (k:=hV 5 k (q:=ldV 0 isAgg3) (k:=?_))))))
 obtain ⟨z49, hz50, h⟩ := bnd h
 refine WH.each (l := [6, 7]) (by kernel_rfl) (by simp) ?_
 intro i hi; simp only [List.mem_cons, List.not_mem_nil, or_false] at hi
 rcases hi with rfl | rfl
 ·
  refine ⟨_, rfl, ?_⟩
  refine ecV [] (caV call28) (fun w hp => nr c_.pend hc_.2.2.2.2.2.2.2.2.2.2.2.2.1 hp hz50) ?_
  rintro Γ51 _ _ hl52 ⟨g55, row56, rfl, rfl, hr57, _⟩
  refine cwV 50 [_, _, _, _, _] ?_
  refine WR.nil (nxV (bo_ [3] hl52 h048) fun k => ?_)
  refine wl_ 7 rfl ?_
  refine gC (intK underlying3) ui rfl rfl rfl rfl ?_
  intro g58 row59 hm60
  have hm60 := MapJ.new (T := (dh.tob 321)) hm60
  refine WR.nil (nxV (bo_ [4] hl52 h048) fun k => ?_)
  refine hV 8 k (q:=bh (v := .agg #[ii c_.sites, .slice A18 x17.length c19, ii c_.nodes, .slice A23 x22.length c24, ii c_.n, ii c_.r, ii c_.w_, ii c_.group, .string c_.secret, ii c_.room, ii c_.seg, ii c_.cap, ii c_.pend, ii c_.wait, ii c_.timeout, ii c_.hintAfter, ii c_.base, ii self, .slice none 0 0, .pointer none, (pq g55), ii (ishl .i64 boot 32), .pointer none, .pointer none, .slice none 0 0, .slice none 0 0, .slice none 0 0, .map (some g58), .pointer none, .pointer none, .slice none 0 0, .slice none 0 0]) rfl (ri rfl rfl rfl rfl rfl) (fun w => by kernel_rfl)) (k:=wl_ 9 rfl ?_)
  refine bxV (v := .agg #[ii c_.sites, .slice A18 x17.length c19, ii c_.nodes, .slice A23 x22.length c24, ii c_.n, ii c_.r, ii c_.w_, ii c_.group, .string c_.secret, ii c_.room, ii c_.seg, ii c_.cap, ii c_.pend, ii c_.wait, ii c_.timeout, ii c_.hintAfter, ii c_.base, ii self, .slice none 0 0, .pointer none, (pq g55), ii (ishl .i64 boot 32), .pointer none, .pointer none, .slice none 0 0, .slice none 0 0, .slice none 0 0, .map (some g58), .pointer none, .pointer none, .slice none 0 0, .slice none 0 0]) fun gh53_ => ?_
  refine WR.nil (nxV (bo_ [5] hl52 h048) fun k => ?_)
  refine hV 10 k (q:=aoV) (k:=?_)
  refine WH.done (by kernel_rfl) ?_
  change WC _ _ _ _ _ _
  refine WC.seq (WC.rs (sV (q_fl 1 eu) (k:=sV (ldV 5 isAgg22) (k:=sV (ai rfl underlying22) (k:=mV (k:=WR.done (WC.block ?_)))))))
  refine WC.forI h (fun (i67 : Nat) (x61 : List Int) σ w => ∃ (A62 : Option Addr), ∃ (c63 : Nat), ∃ (row64 : Rowb), slots σ [(1, ii self), (3, (pq gd)), (4, (pq g1)), (10, (pq gh53_)), (55, .slice A18 x17.length c19), (56, ii (x17.length : Int)), (57, ii (i67 : Int))] ∧ CC F Γ51 [row64, [(gh53_, .cells #[ii c_.sites, .slice A18 x17.length c19, ii c_.nodes, .slice A23 x22.length c24, ii c_.n, ii c_.r, ii c_.w_, ii c_.group, .string c_.secret, ii c_.room, ii c_.seg, ii c_.cap, ii c_.pend, ii c_.wait, ii c_.timeout, ii c_.hintAfter, ii c_.base, ii self, .slice A62 x61.length c63, .pointer none, (pq g55), ii (ishl .i64 boot 32), .pointer none, .pointer none, .slice none 0 0, .slice none 0 0, .slice none 0 0, .map (some g58), .pointer none, .pointer none, .slice none 0 0, .slice none 0 0] 95 (0, 0))], row59, row56, row20, row25, [(g1, .cells #[ii c_.sites, .slice A18 x17.length c19, ii c_.nodes, .slice A23 x22.length c24, ii c_.n, ii c_.r, ii c_.w_, ii c_.group, .string c_.secret, ii c_.room, ii c_.seg, ii c_.cap, ii c_.pend, ii c_.wait, ii c_.timeout, ii c_.hintAfter, ii c_.base] 25 (0, 0))], rowd] w ∧ Own intT Γ51 3 row64 A62 c63 x61 ∧ True) ?_ ?_
  ·
   intro w hw
   have hw := hw.pad
   exact ⟨none, 0, [], slK, hw, (Own.nil intT _ 3), trivial⟩
  rintro f66 i67 x61 σ w hi68 hlt69 hge70 ⟨A62, c63, row64, hsl, hw, ho65, -⟩
  refine slV hsl hw [_, _, _, _, _, _, _, _] ?_; clear hw hsl
  refine WC.rs (sV aI (k:=WR.done (WC.seq ?_)))
  refine coV (fun hb71 => ?_) (fun hb71 => ?_)
  ·
   have hl72 := ilt hb71
   have h := hlt69 hl72
   refine WC.skip (wc_ ?_)
   refine WC.cut (fun σ w => ∃ (x73 : List Int), ∃ (A74 : Option Addr), ∃ (c75 : Nat), ∃ (row76 : Rowb), e6 f66 x73 = some r ∧ slots σ [(1, ii self), (3, (pq gd)), (4, (pq g1)), (10, (pq gh53_)), (55, .slice A18 x17.length c19), (56, ii (x17.length : Int)), (57, ii (i67 : Int))] ∧ CC F Γ51 [row76, [(gh53_, .cells #[ii c_.sites, .slice A18 x17.length c19, ii c_.nodes, .slice A23 x22.length c24, ii c_.n, ii c_.r, ii c_.w_, ii c_.group, .string c_.secret, ii c_.room, ii c_.seg, ii c_.cap, ii c_.pend, ii c_.wait, ii c_.timeout, ii c_.hintAfter, ii c_.base, ii self, .slice A74 x73.length c75, .pointer none, (pq g55), ii (ishl .i64 boot 32), .pointer none, .pointer none, .slice none 0 0, .slice none 0 0, .slice none 0 0, .map (some g58), .pointer none, .pointer none, .slice none 0 0, .slice none 0 0] 95 (0, 0))], row59, row56, row20, row25, [(g1, .cells #[ii c_.sites, .slice A18 x17.length c19, ii c_.nodes, .slice A23 x22.length c24, ii c_.n, ii c_.r, ii c_.w_, ii c_.group, .string c_.secret, ii c_.room, ii c_.seg, ii c_.cap, ii c_.pend, ii c_.wait, ii c_.timeout, ii c_.hintAfter, ii c_.base] 25 (0, 0))], rowd] w ∧ Own intT Γ51 3 row76 A74 c75 x73 ∧ True) ?_ ?_
   ·
    refine WC.block (WC.rs (sV (bB (i := i67) underlying22 sizeOf81 rfl rfl rfl hl72 ((ho21.mono hl52).some_ hl72)) (k:=sV (wQ (c := 0) (vs := (al.cs (gt x17 i67))) (i := 4) rfl ((ho21.mono hl52).dapi_arr2T_at hl72).2 rfl isAgg81 sizeOf81 rfl rfl) (k:=?_))))
    refine alV zeroValue81 fun g78 => ?_
    refine stV 0 (.agg (al.cs (gt x17 i67)).toArray) (al.cs (gt x17 i67)).toArray sizeOf81 (k:=WR.done (WC.rs (sV (eV (0) underlying81 sizeOf3 rfl rfl rfl rfl rfl) (k:=sV (ldV 0 isAgg3) (k:=mV (k:=sV dl (k:=WR.done ?_)))))))
    refine ciV h (fun hb79 h => ?_) (fun hb79 h => ?_)
    ·
     refine leV fun h080 => ?_
     refine dM (CC F Γ51 [[(g78, .cells (al.cs (gt x17 i67)).toArray 81 (0, 0))], [(g1, .cells #[ii c_.sites, .slice A18 x17.length c19, ii c_.nodes, .slice A23 x22.length c24, ii c_.n, ii c_.r, ii c_.w_, ii c_.group, .string c_.secret, ii c_.room, ii c_.seg, ii c_.cap, ii c_.pend, ii c_.wait, ii c_.timeout, ii c_.hintAfter, ii c_.base] 25 (0, 0))]]) (bo_ [0, 6] gR h080) fun k => ?_
     change WH _ _ _ _ (CC F Γ51 [_, _, _, _, _, _, _, _, _]) _ 12 _ _
     refine hV 0 k (q:=moV) (k:=hV 1 k (q:=moV) (k:=hV 2 k (q:=nlV) (k:=hV 3 k (q:=q_fl 18 cx) (k:=hV 5 k (q:=eV (1) underlying81 sizeOf3 rfl rfl rfl rfl rfl) (k:=hV 6 k (q:=ldV 0 isAgg3) (k:=?_))))))
     refine WH.each (l := [4, 7]) (by kernel_rfl) (by simp) ?_
     intro i hi; simp only [List.mem_cons, List.not_mem_nil, or_false] at hi
     rcases hi with rfl | rfl
     ·
      refine ⟨_, rfl, ?_⟩
      refine sV (ldV 2 isAgg23) (k:=?_)
      refine WR.nil (nxV (bo_ [0, 6] gR h080) fun k => ?_)
      refine wl_ 7 rfl ?_
      refine bsV #[ii (gt x17 i67).a1] 3 fun g81 => ?_
      refine WR.nil (nxV (bo_ [1, 7] gR h080) fun k => ?_)
      refine wl_ 8 rfl ?_
      obtain ⟨hk82, h⟩ := ah h
      refine apV 2 [(gt x17 i67).a1] gi ho65 (of_decide_eq_true hk82) (fun w hw => bw (i := 0) rfl (by exact ⟨rfl, ((ho21.mono hl52).dapi_arr2T_at hl72).1.2⟩) hw) ?_
      intro row83 A84 c85 ho86
      refine WR.nil (nxV (bo_ [1, 7] gR h080) fun k => ?_)
      refine hV 9 k (q:=nlV) (k:=hV 10 k (q:=q_fl 18 cx) (k:=wl_ 11 rfl (stV 3 (.slice A84 (x61 ++ [(gt x17 i67).a1]).length c85) #[ii c_.sites, .slice A18 x17.length c19, ii c_.nodes, .slice A23 x22.length c24, ii c_.n, ii c_.r, ii c_.w_, ii c_.group, .string c_.secret, ii c_.room, ii c_.seg, ii c_.cap, ii c_.pend, ii c_.wait, ii c_.timeout, ii c_.hintAfter, ii c_.base, ii self, .slice A84 (x61 ++ [(gt x17 i67).a1]).length c85, .pointer none, (pq g55), ii (ishl .i64 boot 32), .pointer none, .pointer none, .slice none 0 0, .slice none 0 0, .slice none 0 0, .map (some g58), .pointer none, .pointer none, .slice none 0 0, .slice none 0 0] sizeOf23 (k:=?_))))
      refine WR.nil (nxV (bo_ [1, 7] gR h080) fun k => ?_)
      refine WH.done (by kernel_rfl) ?_
      intro w hw
      exact ⟨(x61 ++ [(gt x17 i67).a1]), A84, c85, row83, h, slK, (hw.on [2, 2, 2, 2, 2, 2, 2, 2]), ho86, trivial⟩
     refine ⟨_, rfl, ?_⟩
     refine bsV #[ii (gt x17 i67).a1] 3 fun g81 => ?_
     refine WR.nil (nxV (bo_ [1, 7] gR h080) fun k => ?_)
     refine wl_ 4 rfl (sV (ldV 3 isAgg23) (k:=?_))
     refine WR.nil (nxV (bo_ [1, 7] gR h080) fun k => ?_)
     refine wl_ 8 rfl ?_
     obtain ⟨hk82, h⟩ := ah h
     refine apV 2 [(gt x17 i67).a1] gi ho65 (of_decide_eq_true hk82) (fun w hw => bw (i := 0) rfl (by exact ⟨rfl, ((ho21.mono hl52).dapi_arr2T_at hl72).1.2⟩) hw) ?_
     intro row83 A84 c85 ho86
     refine WR.nil (nxV (bo_ [1, 7] gR h080) fun k => ?_)
     refine hV 9 k (q:=nlV) (k:=hV 10 k (q:=q_fl 18 cx) (k:=wl_ 11 rfl (stV 3 (.slice A84 (x61 ++ [(gt x17 i67).a1]).length c85) #[ii c_.sites, .slice A18 x17.length c19, ii c_.nodes, .slice A23 x22.length c24, ii c_.n, ii c_.r, ii c_.w_, ii c_.group, .string c_.secret, ii c_.room, ii c_.seg, ii c_.cap, ii c_.pend, ii c_.wait, ii c_.timeout, ii c_.hintAfter, ii c_.base, ii self, .slice A84 (x61 ++ [(gt x17 i67).a1]).length c85, .pointer none, (pq g55), ii (ishl .i64 boot 32), .pointer none, .pointer none, .slice none 0 0, .slice none 0 0, .slice none 0 0, .map (some g58), .pointer none, .pointer none, .slice none 0 0, .slice none 0 0] sizeOf23 (k:=?_))))
     refine WR.nil (nxV (bo_ [1, 7] gR h080) fun k => ?_)
     refine WH.done (by kernel_rfl) ?_
     intro w hw
     exact ⟨(x61 ++ [(gt x17 i67).a1]), A84, c85, row83, h, slK, (hw.on [2, 2, 2, 2, 2, 2, 2, 2]), ho86, trivial⟩
    refine WC.rs (sV (eV (1) underlying81 sizeOf3 rfl rfl rfl rfl rfl) (k:=sV (ldV 0 isAgg3) (k:=mV (k:=sV dl (k:=WR.done ?_)))))
    refine ciV h (fun hb87 h => ?_) (fun hb87 h => ?_)
    ·
     refine leV fun h088 => ?_
     refine dM (CC F Γ51 [[(g78, .cells (al.cs (gt x17 i67)).toArray 81 (0, 0))], [(g1, .cells #[ii c_.sites, .slice A18 x17.length c19, ii c_.nodes, .slice A23 x22.length c24, ii c_.n, ii c_.r, ii c_.w_, ii c_.group, .string c_.secret, ii c_.room, ii c_.seg, ii c_.cap, ii c_.pend, ii c_.wait, ii c_.timeout, ii c_.hintAfter, ii c_.base] 25 (0, 0))]]) (bo_ [0, 6] gR h088) fun k => ?_
     change WH _ _ _ _ (CC F Γ51 [_, _, _, _, _, _, _, _, _]) _ 12 _ _
     refine hV 0 k (q:=moV) (k:=hV 1 k (q:=moV) (k:=hV 2 k (q:=nlV) (k:=hV 3 k (q:=q_fl 18 cx) (k:=hV 5 k (q:=eV (0) underlying81 sizeOf3 rfl rfl rfl rfl rfl) (k:=hV 6 k (q:=ldV 0 isAgg3) (k:=?_))))))
     refine WH.each (l := [4, 7]) (by kernel_rfl) (by simp) ?_
     intro i hi; simp only [List.mem_cons, List.not_mem_nil, or_false] at hi
     rcases hi with rfl | rfl
     ·
      refine ⟨_, rfl, ?_⟩
      refine sV (ldV 2 isAgg23) (k:=?_)
      refine WR.nil (nxV (bo_ [0, 6] gR h088) fun k => ?_)
      refine wl_ 7 rfl ?_
      refine bsV #[ii (gt x17 i67).a0] 3 fun g89 => ?_
      refine WR.nil (nxV (bo_ [1, 7] gR h088) fun k => ?_)
      refine wl_ 8 rfl ?_
      obtain ⟨hk90, h⟩ := ah h
      refine apV 2 [(gt x17 i67).a0] gi ho65 (of_decide_eq_true hk90) (fun w hw => bw (i := 0) rfl (by exact ⟨rfl, ((ho21.mono hl52).dapi_arr2T_at hl72).1.1⟩) hw) ?_
      intro row91 A92 c93 ho94
      refine WR.nil (nxV (bo_ [1, 7] gR h088) fun k => ?_)
      refine hV 9 k (q:=nlV) (k:=hV 10 k (q:=q_fl 18 cx) (k:=wl_ 11 rfl (stV 3 (.slice A92 (x61 ++ [(gt x17 i67).a0]).length c93) #[ii c_.sites, .slice A18 x17.length c19, ii c_.nodes, .slice A23 x22.length c24, ii c_.n, ii c_.r, ii c_.w_, ii c_.group, .string c_.secret, ii c_.room, ii c_.seg, ii c_.cap, ii c_.pend, ii c_.wait, ii c_.timeout, ii c_.hintAfter, ii c_.base, ii self, .slice A92 (x61 ++ [(gt x17 i67).a0]).length c93, .pointer none, (pq g55), ii (ishl .i64 boot 32), .pointer none, .pointer none, .slice none 0 0, .slice none 0 0, .slice none 0 0, .map (some g58), .pointer none, .pointer none, .slice none 0 0, .slice none 0 0] sizeOf23 (k:=?_))))
      refine WR.nil (nxV (bo_ [1, 7] gR h088) fun k => ?_)
      refine WH.done (by kernel_rfl) ?_
      intro w hw
      exact ⟨(x61 ++ [(gt x17 i67).a0]), A92, c93, row91, h, slK, (hw.on [2, 2, 2, 2, 2, 2, 2, 2]), ho94, trivial⟩
     refine ⟨_, rfl, ?_⟩
     refine bsV #[ii (gt x17 i67).a0] 3 fun g89 => ?_
     refine WR.nil (nxV (bo_ [1, 7] gR h088) fun k => ?_)
     refine wl_ 4 rfl (sV (ldV 3 isAgg23) (k:=?_))
     refine WR.nil (nxV (bo_ [1, 7] gR h088) fun k => ?_)
     refine wl_ 8 rfl ?_
     obtain ⟨hk90, h⟩ := ah h
     refine apV 2 [(gt x17 i67).a0] gi ho65 (of_decide_eq_true hk90) (fun w hw => bw (i := 0) rfl (by exact ⟨rfl, ((ho21.mono hl52).dapi_arr2T_at hl72).1.1⟩) hw) ?_
     intro row91 A92 c93 ho94
     refine WR.nil (nxV (bo_ [1, 7] gR h088) fun k => ?_)
     refine hV 9 k (q:=nlV) (k:=hV 10 k (q:=q_fl 18 cx) (k:=wl_ 11 rfl (stV 3 (.slice A92 (x61 ++ [(gt x17 i67).a0]).length c93) #[ii c_.sites, .slice A18 x17.length c19, ii c_.nodes, .slice A23 x22.length c24, ii c_.n, ii c_.r, ii c_.w_, ii c_.group, .string c_.secret, ii c_.room, ii c_.seg, ii c_.cap, ii c_.pend, ii c_.wait, ii c_.timeout, ii c_.hintAfter, ii c_.base, ii self, .slice A92 (x61 ++ [(gt x17 i67).a0]).length c93, .pointer none, (pq g55), ii (ishl .i64 boot 32), .pointer none, .pointer none, .slice none 0 0, .slice none 0 0, .slice none 0 0, .map (some g58), .pointer none, .pointer none, .slice none 0 0, .slice none 0 0] sizeOf23 (k:=?_))))
     refine WR.nil (nxV (bo_ [1, 7] gR h088) fun k => ?_)
     refine WH.done (by kernel_rfl) ?_
     intro w hw
     exact ⟨(x61 ++ [(gt x17 i67).a0]), A92, c93, row91, h, slK, (hw.on [2, 2, 2, 2, 2, 2, 2, 2]), ho94, trivial⟩
    refine WC.skip ?_
    intro w hw
    exact ⟨x61, A62, c63, row64, h, slK, (hw.on [1, 1, 1, 1, 1, 1, 1, 1]), ho65, trivial⟩
   rintro σ w ⟨x73, A74, c75, row76, h, hsl, hw, ho77, -⟩
   refine slV hsl hw [_, _, _, _, _, _, _, _] ?_; clear hw hsl
   refine WC.region ?_
   refine sV (aK rfl rfl rfl (bx hl72 (ho21.mono hl52).le)) (k:=mV (k:=?_))
   refine WR.nil ?_
   intro w hw
   exact ⟨hl72, x73, h, A74, c75, row76, slK, hw, ho77, trivial⟩
  have h := hge70 (ige hb71)
  refine WC.exit ?_
  change WC _ _ _ _ _ _
  refine WC.rs (mV (k:=sV nlV (k:=sV (q_fl 18 cx) (k:=sV (ldV 1 isAgg23) (k:=?_)))))
  refine ecV [0] (caV call29) (fun w hp => qn yv ho65 hp) ?_
  rintro Γ95 _ _ hl96 ⟨rfl, row99, rfl, ho100⟩
  refine cwV 96 [_, _, _, _, _, _, _, _] ?_
  rw [show Value.slice A62 (x61.length) c63 = Value.slice A62 ((srtI x61).length) c63 from by first | (rw [(gM _)]; done) | (rw [(gM _)]; rfl)]
  refine WR.done (WC.seq ?_)
  refine leV fun h0101 => ?_
  refine dM (CC F Γ95 [[(gh53_, .cells #[ii c_.sites, .slice A18 x17.length c19, ii c_.nodes, .slice A23 x22.length c24, ii c_.n, ii c_.r, ii c_.w_, ii c_.group, .string c_.secret, ii c_.room, ii c_.seg, ii c_.cap, ii c_.pend, ii c_.wait, ii c_.timeout, ii c_.hintAfter, ii c_.base, ii self, .slice A62 (srtI x61).length c63, .pointer none, (pq g55), ii (ishl .i64 boot 32), .pointer none, .pointer none, .slice none 0 0, .slice none 0 0, .slice none 0 0, .map (some g58), .pointer none, .pointer none, .slice none 0 0, .slice none 0 0] 95 (0, 0))], [(g1, .cells #[ii c_.sites, .slice A18 x17.length c19, ii c_.nodes, .slice A23 x22.length c24, ii c_.n, ii c_.r, ii c_.w_, ii c_.group, .string c_.secret, ii c_.room, ii c_.seg, ii c_.cap, ii c_.pend, ii c_.wait, ii c_.timeout, ii c_.hintAfter, ii c_.base] 25 (0, 0))]]) (bo_ [1, 5] gR h0101) fun k => ?_
  change WH _ _ _ _ (CC F Γ95 [_, _, _, _, _, _, _, _]) _ 23 _ _
  refine hV 0 k (q:=moV) (k:=hV 1 k (q:=q_fl 10 qt) (k:=hV 2 k (q:=ldV 1 isAgg3) (k:=hV 3 k (q:=moV) (k:=hV 4 k (q:=q_fl 0 iU) (k:=hV 5 k (q:=ldV 1 isAgg3) (k:=hV 6 k (q:=moV) (k:=hV 7 k (q:=nlV) (k:=?_))))))))
  refine hV 8 k (q:=q_fl 18 cx) (k:=hV 9 k (q:=ldV 0 isAgg23) (k:=hV 10 k (q:=q_fl 11 kF) (k:=hV 11 k (q:=ldV 1 isAgg3) (k:=hV 12 k (q:=q_fl 16 iX) (k:=hV 13 k (q:=ldV 1 isAgg2) (k:=hV 14 k (q:=q_fl 3 ey) (k:=hV 15 k (q:=ldV 1 isAgg23) (k:=?_))))))))
  refine hV 16 k (q:=bh (v := .agg #[ii self, ii c_.sites, .slice A62 (srtI x61).length c63, ii c_.cap, ii c_.base, .slice A23 x22.length c24]) rfl (vZ rfl rfl rfl rfl rfl rfl) (fun w => by kernel_rfl)) (k:=wl_ 17 rfl ?_)
  have hc106 := ho100.capz
  refine seR 0 [_, _, _, _, _, _, _, _] fun Γ102 hl103 hr104 => ?_
  have hs105 := ho100.sl hl103 hr104
  have hc111 := (ho26.mono ((hl52.trans hl96).trans hl103)).capz
  refine seR 5 [_, _, _, _, _, _, _, _] fun Γ107 hl108 hr109 => ?_
  have hs110 := (ho26.mono ((hl52.trans hl96).trans hl103)).sl hl108 hr109
  obtain ⟨z112, hz113, h⟩ := bnd h
  refine ecV [7] (caV call30) (fun w hp => m8 (hd.mono ((((hl16.trans hl52).trans hl96).trans hl103).trans hl108)) c_.seg hc_.2.2.2.2.2.2.2.2.2.2.1 (⟨self, c_.sites, (srtI x61), c_.cap, c_.base, x22⟩ : aD) ⟨hself, hc_.1, ⟨hc106, (hs105.mono hl108)⟩, hc_.2.2.2.2.2.2.2.2.2.2.2.1, hc_.2.2.2.2.2.2.2.2.2.2.2.2.2.2.2.2, ⟨hc111, hs110⟩⟩ hp hz113) ?_
  rintro Γ114 _ _ hl115 ⟨row118, g120, row121, rfl, rfl, hr119, hr122, hr123, _⟩
  refine cwV 115 [_, _, _, _, _, _, _, _, _] ?_
  refine WR.nil (nxV (bo_ [3, 7] ((hl103.trans hl108).trans hl115) h0101) fun k => ?_)
  refine hV 18 k (q:=moV) (k:=hV 19 k (q:=exV) (k:=hV 20 k (q:=exV) (k:=hV 21 k (q:=fN (v := optp z112.2.1 g120) rfl (by kernel_rfl)) (k:=hV 22 k (q:=aoV) (k:=?_)))))
  refine WH.done (by kernel_rfl) ?_
  change WC _ _ _ _ _ _
  refine WC.seq (WC.rs (mV (k:=sV ci (k:=WR.done ?_))))
  refine ciV h (fun hb124 h => ?_) (fun hb124 h => ?_)
  ·
   refine WC.rs (mV (k:=aV (k:=aV (k:=WR.done ?_))))
   refine WC.ret ?_
   intro w hw
   have hw := hw.pad
   exact re_ r [1, 0] h hF hw ⟨row118, 0, [], rfl, rfl, hr119, rfl, hr123, trivial⟩
  refine WC.skip (wc_ (WC.rs (mV (k:=mU (v := optp z112.2.1 g120) (k:=sV nlV (k:=sV (q_fl 19 ly) (k:=?_)))))))
  refine e_st (i := 3) (v := optp z112.2.1 g120) (new := #[ii c_.sites, .slice A18 x17.length c19, ii c_.nodes, .slice A23 x22.length c24, ii c_.n, ii c_.r, ii c_.w_, ii c_.group, .string c_.secret, ii c_.room, ii c_.seg, ii c_.cap, ii c_.pend, ii c_.wait, ii c_.timeout, ii c_.hintAfter, ii c_.base, ii self, .slice A62 (srtI x61).length c63, optp z112.2.1 g120, (pq g55), ii (ishl .i64 boot 32), .pointer none, .pointer none, .slice none 0 0, .slice none 0 0, .slice none 0 0, .map (some g58), .pointer none, .pointer none, .slice none 0 0, .slice none 0 0]) rfl sizeOf86 rfl rfl rfl rfl (by kernel_rfl) (by generalize z112.2.1 = q0_; cases q0_ <;> rfl) (by generalize z112.2.1 = q0_; cases q0_ <;> rfl) (by generalize z112.2.1 = q0_; cases q0_ <;> rfl) (by generalize z112.2.1 = q0_; cases q0_ <;> rfl) ?_
  refine WR.done (WC.rs (mV (k:=aV (k:=aV (k:=WR.done ?_)))))
  refine WC.ret ?_
  intro w hw
  obtain ⟨z125, hz126, h⟩ := bnd h
  have ho127 := jn hr122 hz126
  have hc128 : optp z112.2.1 g120 = (pq g120) := ft rfl hz126
  rw [hc128] at hw
  have hc133 := (ho21.mono ((((hl52.trans hl96).trans hl103).trans hl108).trans hl115)).capz
  obtain ⟨Γ129, hw, hl130, hr131⟩ := hw.seal (i := 6) rfl; have hs132 := (ho21.mono ((((hl52.trans hl96).trans hl103).trans hl108).trans hl115)).sl hl130 hr131
  obtain ⟨hk135, h⟩ := ah h
  obtain ⟨row_134, hrow_134, hob_134⟩ : ∃ rw : Rowb, rw = ([[(gh53_, .cells #[ii c_.sites, .slice A18 x17.length c19, ii c_.nodes, .slice A23 x22.length c24, ii c_.n, ii c_.r, ii c_.w_, ii c_.group, .string c_.secret, ii c_.room, ii c_.seg, ii c_.cap, ii c_.pend, ii c_.wait, ii c_.timeout, ii c_.hintAfter, ii c_.base, ii self, .slice A62 (srtI x61).length c63, (pq g120), (pq g55), ii (ishl .i64 boot 32), .pointer none, .pointer none, .slice none 0 0, .slice none 0 0, .slice none 0 0, .map (some g58), .pointer none, .pointer none, .slice none 0 0, .slice none 0 0] 95 (0, 0))], row121] : List Rowb).flatten ∧ au.ob (95, gd) Γ129 gh53_ rw (⟨c_.sites, x17, c_.nodes, x22, c_.n, c_.r, c_.w_, c_.group, c_.secret, c_.room, c_.seg, c_.cap, c_.pend, c_.wait, c_.timeout, c_.hintAfter, c_.base, self, (srtI x61), z125, (ishl .i64 boot 32)⟩ : au) := ⟨_, rfl, A18, c19, A23, c24, A62, c63, g120, row121, ((pq g55)), (.map (some g58)), rfl, hc_.1, hc133, hs132, hc_.2.2.1, hc111, (hs110.mono (hl115.trans hl130)), hc_.2.2.2.2.1, hc_.2.2.2.2.2.1, hc_.2.2.2.2.2.2.1, hc_.2.2.2.2.2.2.2.1, hc_.2.2.2.2.2.2.2.2.1, hc_.2.2.2.2.2.2.2.2.2.1, hc_.2.2.2.2.2.2.2.2.2.2.1, hc_.2.2.2.2.2.2.2.2.2.2.2.1, hc_.2.2.2.2.2.2.2.2.2.2.2.2.1, hc_.2.2.2.2.2.2.2.2.2.2.2.2.2.1, hc_.2.2.2.2.2.2.2.2.2.2.2.2.2.2.1, hc_.2.2.2.2.2.2.2.2.2.2.2.2.2.2.2.1, hc_.2.2.2.2.2.2.2.2.2.2.2.2.2.2.2.2, hself, hc106, (hs105.mono ((hl108.trans hl115).trans hl130)), (ho127.mono hl130), (dP hk135), trivial⟩
  have hw := hw.fold (is := [3, 1]) rfl hrow_134
  obtain rfl := Option.some.inj h
  subst hF
  exact bO (is := [1, 0]) (by kernel_rfl) hw rfl ⟨row118, gh53_, row_134, rfl, rfl, (hr119.mono hl130), hob_134, iV, trivial⟩
 refine ⟨_, rfl, ?_⟩
 refine gC (intK underlying3) ui rfl rfl rfl rfl ?_
 intro g51 row52 hm53
 have hm53 := MapJ.new (T := (dh.tob 321)) hm53
 refine WR.nil (nxV (bo_ [3] gR h048) fun k => ?_)
 refine wl_ 6 rfl ?_
 refine ecV [] (caV call28) (fun w hp => nr c_.pend hc_.2.2.2.2.2.2.2.2.2.2.2.2.1 hp hz50) ?_
 rintro Γ54 _ _ hl55 ⟨g58, row59, rfl, rfl, hr60, _⟩
 refine cwV 50 [_, _, _, _, _, _] ?_
 refine WR.nil (nxV (bo_ [4] hl55 h048) fun k => ?_)
 refine hV 8 k (q:=bh (v := .agg #[ii c_.sites, .slice A18 x17.length c19, ii c_.nodes, .slice A23 x22.length c24, ii c_.n, ii c_.r, ii c_.w_, ii c_.group, .string c_.secret, ii c_.room, ii c_.seg, ii c_.cap, ii c_.pend, ii c_.wait, ii c_.timeout, ii c_.hintAfter, ii c_.base, ii self, .slice none 0 0, .pointer none, (pq g58), ii (ishl .i64 boot 32), .pointer none, .pointer none, .slice none 0 0, .slice none 0 0, .slice none 0 0, .map (some g51), .pointer none, .pointer none, .slice none 0 0, .slice none 0 0]) rfl (ri rfl rfl rfl rfl rfl) (fun w => by kernel_rfl)) (k:=wl_ 9 rfl ?_)
 refine bxV (v := .agg #[ii c_.sites, .slice A18 x17.length c19, ii c_.nodes, .slice A23 x22.length c24, ii c_.n, ii c_.r, ii c_.w_, ii c_.group, .string c_.secret, ii c_.room, ii c_.seg, ii c_.cap, ii c_.pend, ii c_.wait, ii c_.timeout, ii c_.hintAfter, ii c_.base, ii self, .slice none 0 0, .pointer none, (pq g58), ii (ishl .i64 boot 32), .pointer none, .pointer none, .slice none 0 0, .slice none 0 0, .slice none 0 0, .map (some g51), .pointer none, .pointer none, .slice none 0 0, .slice none 0 0]) fun gh53_ => ?_
 refine WR.nil (nxV (bo_ [5] hl55 h048) fun k => ?_)
 refine hV 10 k (q:=aoV) (k:=?_)
 refine WH.done (by kernel_rfl) ?_
 change WC _ _ _ _ _ _
 refine WC.seq (WC.rs (sV (q_fl 1 eu) (k:=sV (ldV 5 isAgg22) (k:=sV (ai rfl underlying22) (k:=mV (k:=WR.done (WC.block ?_)))))))
 refine WC.forI h (fun (i67 : Nat) (x61 : List Int) σ w => ∃ (A62 : Option Addr), ∃ (c63 : Nat), ∃ (row64 : Rowb), slots σ [(1, ii self), (3, (pq gd)), (4, (pq g1)), (10, (pq gh53_)), (55, .slice A18 x17.length c19), (56, ii (x17.length : Int)), (57, ii (i67 : Int))] ∧ CC F Γ54 [row64, [(gh53_, .cells #[ii c_.sites, .slice A18 x17.length c19, ii c_.nodes, .slice A23 x22.length c24, ii c_.n, ii c_.r, ii c_.w_, ii c_.group, .string c_.secret, ii c_.room, ii c_.seg, ii c_.cap, ii c_.pend, ii c_.wait, ii c_.timeout, ii c_.hintAfter, ii c_.base, ii self, .slice A62 x61.length c63, .pointer none, (pq g58), ii (ishl .i64 boot 32), .pointer none, .pointer none, .slice none 0 0, .slice none 0 0, .slice none 0 0, .map (some g51), .pointer none, .pointer none, .slice none 0 0, .slice none 0 0] 95 (0, 0))], row59, row52, row20, row25, [(g1, .cells #[ii c_.sites, .slice A18 x17.length c19, ii c_.nodes, .slice A23 x22.length c24, ii c_.n, ii c_.r, ii c_.w_, ii c_.group, .string c_.secret, ii c_.room, ii c_.seg, ii c_.cap, ii c_.pend, ii c_.wait, ii c_.timeout, ii c_.hintAfter, ii c_.base] 25 (0, 0))], rowd] w ∧ Own intT Γ54 3 row64 A62 c63 x61 ∧ True) ?_ ?_
 ·
  intro w hw
  have hw := hw.pad
  exact ⟨none, 0, [], slK, hw, (Own.nil intT _ 3), trivial⟩
 rintro f66 i67 x61 σ w hi68 hlt69 hge70 ⟨A62, c63, row64, hsl, hw, ho65, -⟩
 refine slV hsl hw [_, _, _, _, _, _, _, _] ?_; clear hw hsl
 refine WC.rs (sV aI (k:=WR.done (WC.seq ?_)))
 refine coV (fun hb71 => ?_) (fun hb71 => ?_)
 ·
  have hl72 := ilt hb71
  have h := hlt69 hl72
  refine WC.skip (wc_ ?_)
  refine WC.cut (fun σ w => ∃ (x73 : List Int), ∃ (A74 : Option Addr), ∃ (c75 : Nat), ∃ (row76 : Rowb), e6 f66 x73 = some r ∧ slots σ [(1, ii self), (3, (pq gd)), (4, (pq g1)), (10, (pq gh53_)), (55, .slice A18 x17.length c19), (56, ii (x17.length : Int)), (57, ii (i67 : Int))] ∧ CC F Γ54 [row76, [(gh53_, .cells #[ii c_.sites, .slice A18 x17.length c19, ii c_.nodes, .slice A23 x22.length c24, ii c_.n, ii c_.r, ii c_.w_, ii c_.group, .string c_.secret, ii c_.room, ii c_.seg, ii c_.cap, ii c_.pend, ii c_.wait, ii c_.timeout, ii c_.hintAfter, ii c_.base, ii self, .slice A74 x73.length c75, .pointer none, (pq g58), ii (ishl .i64 boot 32), .pointer none, .pointer none, .slice none 0 0, .slice none 0 0, .slice none 0 0, .map (some g51), .pointer none, .pointer none, .slice none 0 0, .slice none 0 0] 95 (0, 0))], row59, row52, row20, row25, [(g1, .cells #[ii c_.sites, .slice A18 x17.length c19, ii c_.nodes, .slice A23 x22.length c24, ii c_.n, ii c_.r, ii c_.w_, ii c_.group, .string c_.secret, ii c_.room, ii c_.seg, ii c_.cap, ii c_.pend, ii c_.wait, ii c_.timeout, ii c_.hintAfter, ii c_.base] 25 (0, 0))], rowd] w ∧ Own intT Γ54 3 row76 A74 c75 x73 ∧ True) ?_ ?_
  ·
   refine WC.block (WC.rs (sV (bB (i := i67) underlying22 sizeOf81 rfl rfl rfl hl72 ((ho21.mono hl55).some_ hl72)) (k:=sV (wQ (c := 0) (vs := (al.cs (gt x17 i67))) (i := 4) rfl ((ho21.mono hl55).dapi_arr2T_at hl72).2 rfl isAgg81 sizeOf81 rfl rfl) (k:=?_))))
   refine alV zeroValue81 fun g78 => ?_
   refine stV 0 (.agg (al.cs (gt x17 i67)).toArray) (al.cs (gt x17 i67)).toArray sizeOf81 (k:=WR.done (WC.rs (sV (eV (0) underlying81 sizeOf3 rfl rfl rfl rfl rfl) (k:=sV (ldV 0 isAgg3) (k:=mV (k:=sV dl (k:=WR.done ?_)))))))
   refine ciV h (fun hb79 h => ?_) (fun hb79 h => ?_)
   ·
    refine leV fun h080 => ?_
    refine dM (CC F Γ54 [[(g78, .cells (al.cs (gt x17 i67)).toArray 81 (0, 0))], [(g1, .cells #[ii c_.sites, .slice A18 x17.length c19, ii c_.nodes, .slice A23 x22.length c24, ii c_.n, ii c_.r, ii c_.w_, ii c_.group, .string c_.secret, ii c_.room, ii c_.seg, ii c_.cap, ii c_.pend, ii c_.wait, ii c_.timeout, ii c_.hintAfter, ii c_.base] 25 (0, 0))]]) (bo_ [0, 6] gR h080) fun k => ?_
    change WH _ _ _ _ (CC F Γ54 [_, _, _, _, _, _, _, _, _]) _ 12 _ _
    refine hV 0 k (q:=moV) (k:=hV 1 k (q:=moV) (k:=hV 2 k (q:=nlV) (k:=hV 3 k (q:=q_fl 18 cx) (k:=hV 5 k (q:=eV (1) underlying81 sizeOf3 rfl rfl rfl rfl rfl) (k:=hV 6 k (q:=ldV 0 isAgg3) (k:=?_))))))
    refine WH.each (l := [4, 7]) (by kernel_rfl) (by simp) ?_
    intro i hi; simp only [List.mem_cons, List.not_mem_nil, or_false] at hi
    rcases hi with rfl | rfl
    ·
     refine ⟨_, rfl, ?_⟩
     refine sV (ldV 2 isAgg23) (k:=?_)
     refine WR.nil (nxV (bo_ [0, 6] gR h080) fun k => ?_)
     refine wl_ 7 rfl ?_
     refine bsV #[ii (gt x17 i67).a1] 3 fun g81 => ?_
     refine WR.nil (nxV (bo_ [1, 7] gR h080) fun k => ?_)
     refine wl_ 8 rfl ?_
     obtain ⟨hk82, h⟩ := ah h
     refine apV 2 [(gt x17 i67).a1] gi ho65 (of_decide_eq_true hk82) (fun w hw => bw (i := 0) rfl (by exact ⟨rfl, ((ho21.mono hl55).dapi_arr2T_at hl72).1.2⟩) hw) ?_
     intro row83 A84 c85 ho86
     refine WR.nil (nxV (bo_ [1, 7] gR h080) fun k => ?_)
     refine hV 9 k (q:=nlV) (k:=hV 10 k (q:=q_fl 18 cx) (k:=wl_ 11 rfl (stV 3 (.slice A84 (x61 ++ [(gt x17 i67).a1]).length c85) #[ii c_.sites, .slice A18 x17.length c19, ii c_.nodes, .slice A23 x22.length c24, ii c_.n, ii c_.r, ii c_.w_, ii c_.group, .string c_.secret, ii c_.room, ii c_.seg, ii c_.cap, ii c_.pend, ii c_.wait, ii c_.timeout, ii c_.hintAfter, ii c_.base, ii self, .slice A84 (x61 ++ [(gt x17 i67).a1]).length c85, .pointer none, (pq g58), ii (ishl .i64 boot 32), .pointer none, .pointer none, .slice none 0 0, .slice none 0 0, .slice none 0 0, .map (some g51), .pointer none, .pointer none, .slice none 0 0, .slice none 0 0] sizeOf23 (k:=?_))))
     refine WR.nil (nxV (bo_ [1, 7] gR h080) fun k => ?_)
     refine WH.done (by kernel_rfl) ?_
     intro w hw
     exact ⟨(x61 ++ [(gt x17 i67).a1]), A84, c85, row83, h, slK, (hw.on [2, 2, 2, 2, 2, 2, 2, 2]), ho86, trivial⟩
    refine ⟨_, rfl, ?_⟩
    refine bsV #[ii (gt x17 i67).a1] 3 fun g81 => ?_
    refine WR.nil (nxV (bo_ [1, 7] gR h080) fun k => ?_)
    refine wl_ 4 rfl (sV (ldV 3 isAgg23) (k:=?_))
    refine WR.nil (nxV (bo_ [1, 7] gR h080) fun k => ?_)
    refine wl_ 8 rfl ?_
    obtain ⟨hk82, h⟩ := ah h
    refine apV 2 [(gt x17 i67).a1] gi ho65 (of_decide_eq_true hk82) (fun w hw => bw (i := 0) rfl (by exact ⟨rfl, ((ho21.mono hl55).dapi_arr2T_at hl72).1.2⟩) hw) ?_
    intro row83 A84 c85 ho86
    refine WR.nil (nxV (bo_ [1, 7] gR h080) fun k => ?_)
    refine hV 9 k (q:=nlV) (k:=hV 10 k (q:=q_fl 18 cx) (k:=wl_ 11 rfl (stV 3 (.slice A84 (x61 ++ [(gt x17 i67).a1]).length c85) #[ii c_.sites, .slice A18 x17.length c19, ii c_.nodes, .slice A23 x22.length c24, ii c_.n, ii c_.r, ii c_.w_, ii c_.group, .string c_.secret, ii c_.room, ii c_.seg, ii c_.cap, ii c_.pend, ii c_.wait, ii c_.timeout, ii c_.hintAfter, ii c_.base, ii self, .slice A84 (x61 ++ [(gt x17 i67).a1]).length c85, .pointer none, (pq g58), ii (ishl .i64 boot 32), .pointer none, .pointer none, .slice none 0 0, .slice none 0 0, .slice none 0 0, .map (some g51), .pointer none, .pointer none, .slice none 0 0, .slice none 0 0] sizeOf23 (k:=?_))))
    refine WR.nil (nxV (bo_ [1, 7] gR h080) fun k => ?_)
    refine WH.done (by kernel_rfl) ?_
    intro w hw
    exact ⟨(x61 ++ [(gt x17 i67).a1]), A84, c85, row83, h, slK, (hw.on [2, 2, 2, 2, 2, 2, 2, 2]), ho86, trivial⟩
   refine WC.rs (sV (eV (1) underlying81 sizeOf3 rfl rfl rfl rfl rfl) (k:=sV (ldV 0 isAgg3) (k:=mV (k:=sV dl (k:=WR.done ?_)))))
   refine ciV h (fun hb87 h => ?_) (fun hb87 h => ?_)
   ·
    refine leV fun h088 => ?_
    refine dM (CC F Γ54 [[(g78, .cells (al.cs (gt x17 i67)).toArray 81 (0, 0))], [(g1, .cells #[ii c_.sites, .slice A18 x17.length c19, ii c_.nodes, .slice A23 x22.length c24, ii c_.n, ii c_.r, ii c_.w_, ii c_.group, .string c_.secret, ii c_.room, ii c_.seg, ii c_.cap, ii c_.pend, ii c_.wait, ii c_.timeout, ii c_.hintAfter, ii c_.base] 25 (0, 0))]]) (bo_ [0, 6] gR h088) fun k => ?_
    change WH _ _ _ _ (CC F Γ54 [_, _, _, _, _, _, _, _, _]) _ 12 _ _
    refine hV 0 k (q:=moV) (k:=hV 1 k (q:=moV) (k:=hV 2 k (q:=nlV) (k:=hV 3 k (q:=q_fl 18 cx) (k:=hV 5 k (q:=eV (0) underlying81 sizeOf3 rfl rfl rfl rfl rfl) (k:=hV 6 k (q:=ldV 0 isAgg3) (k:=?_))))))
    refine WH.each (l := [4, 7]) (by kernel_rfl) (by simp) ?_
    intro i hi; simp only [List.mem_cons, List.not_mem_nil, or_false] at hi
    rcases hi with rfl | rfl
    ·
     refine ⟨_, rfl, ?_⟩
     refine sV (ldV 2 isAgg23) (k:=?_)
     refine WR.nil (nxV (bo_ [0, 6] gR h088) fun k => ?_)
     refine wl_ 7 rfl ?_
     refine bsV #[ii (gt x17 i67).a0] 3 fun g89 => ?_
     refine WR.nil (nxV (bo_ [1, 7] gR h088) fun k => ?_)
     refine wl_ 8 rfl ?_
     obtain ⟨hk90, h⟩ := ah h
     refine apV 2 [(gt x17 i67).a0] gi ho65 (of_decide_eq_true hk90) (fun w hw => bw (i := 0) rfl (by exact ⟨rfl, ((ho21.mono hl55).dapi_arr2T_at hl72).1.1⟩) hw) ?_
     intro row91 A92 c93 ho94
     refine WR.nil (nxV (bo_ [1, 7] gR h088) fun k => ?_)
     refine hV 9 k (q:=nlV) (k:=hV 10 k (q:=q_fl 18 cx) (k:=wl_ 11 rfl (stV 3 (.slice A92 (x61 ++ [(gt x17 i67).a0]).length c93) #[ii c_.sites, .slice A18 x17.length c19, ii c_.nodes, .slice A23 x22.length c24, ii c_.n, ii c_.r, ii c_.w_, ii c_.group, .string c_.secret, ii c_.room, ii c_.seg, ii c_.cap, ii c_.pend, ii c_.wait, ii c_.timeout, ii c_.hintAfter, ii c_.base, ii self, .slice A92 (x61 ++ [(gt x17 i67).a0]).length c93, .pointer none, (pq g58), ii (ishl .i64 boot 32), .pointer none, .pointer none, .slice none 0 0, .slice none 0 0, .slice none 0 0, .map (some g51), .pointer none, .pointer none, .slice none 0 0, .slice none 0 0] sizeOf23 (k:=?_))))
     refine WR.nil (nxV (bo_ [1, 7] gR h088) fun k => ?_)
     refine WH.done (by kernel_rfl) ?_
     intro w hw
     exact ⟨(x61 ++ [(gt x17 i67).a0]), A92, c93, row91, h, slK, (hw.on [2, 2, 2, 2, 2, 2, 2, 2]), ho94, trivial⟩
    refine ⟨_, rfl, ?_⟩
    refine bsV #[ii (gt x17 i67).a0] 3 fun g89 => ?_
    refine WR.nil (nxV (bo_ [1, 7] gR h088) fun k => ?_)
    refine wl_ 4 rfl (sV (ldV 3 isAgg23) (k:=?_))
    refine WR.nil (nxV (bo_ [1, 7] gR h088) fun k => ?_)
    refine wl_ 8 rfl ?_
    obtain ⟨hk90, h⟩ := ah h
    refine apV 2 [(gt x17 i67).a0] gi ho65 (of_decide_eq_true hk90) (fun w hw => bw (i := 0) rfl (by exact ⟨rfl, ((ho21.mono hl55).dapi_arr2T_at hl72).1.1⟩) hw) ?_
    intro row91 A92 c93 ho94
    refine WR.nil (nxV (bo_ [1, 7] gR h088) fun k => ?_)
    refine hV 9 k (q:=nlV) (k:=hV 10 k (q:=q_fl 18 cx) (k:=wl_ 11 rfl (stV 3 (.slice A92 (x61 ++ [(gt x17 i67).a0]).length c93) #[ii c_.sites, .slice A18 x17.length c19, ii c_.nodes, .slice A23 x22.length c24, ii c_.n, ii c_.r, ii c_.w_, ii c_.group, .string c_.secret, ii c_.room, ii c_.seg, ii c_.cap, ii c_.pend, ii c_.wait, ii c_.timeout, ii c_.hintAfter, ii c_.base, ii self, .slice A92 (x61 ++ [(gt x17 i67).a0]).length c93, .pointer none, (pq g58), ii (ishl .i64 boot 32), .pointer none, .pointer none, .slice none 0 0, .slice none 0 0, .slice none 0 0, .map (some g51), .pointer none, .pointer none, .slice none 0 0, .slice none 0 0] sizeOf23 (k:=?_))))
    refine WR.nil (nxV (bo_ [1, 7] gR h088) fun k => ?_)
    refine WH.done (by kernel_rfl) ?_
    intro w hw
    exact ⟨(x61 ++ [(gt x17 i67).a0]), A92, c93, row91, h, slK, (hw.on [2, 2, 2, 2, 2, 2, 2, 2]), ho94, trivial⟩
   refine WC.skip ?_
   intro w hw
   exact ⟨x61, A62, c63, row64, h, slK, (hw.on [1, 1, 1, 1, 1, 1, 1, 1]), ho65, trivial⟩
  rintro σ w ⟨x73, A74, c75, row76, h, hsl, hw, ho77, -⟩
  refine slV hsl hw [_, _, _, _, _, _, _, _] ?_; clear hw hsl
  refine WC.region ?_
  refine sV (aK rfl rfl rfl (bx hl72 (ho21.mono hl55).le)) (k:=mV (k:=?_))
  refine WR.nil ?_
  intro w hw
  exact ⟨hl72, x73, h, A74, c75, row76, slK, hw, ho77, trivial⟩
 have h := hge70 (ige hb71)
 refine WC.exit ?_
 change WC _ _ _ _ _ _
 refine WC.rs (mV (k:=sV nlV (k:=sV (q_fl 18 cx) (k:=sV (ldV 1 isAgg23) (k:=?_)))))
 refine ecV [0] (caV call29) (fun w hp => qn yv ho65 hp) ?_
 rintro Γ95 _ _ hl96 ⟨rfl, row99, rfl, ho100⟩
 refine cwV 96 [_, _, _, _, _, _, _, _] ?_
 rw [show Value.slice A62 (x61.length) c63 = Value.slice A62 ((srtI x61).length) c63 from by first | (rw [(gM _)]; done) | (rw [(gM _)]; rfl)]
 refine WR.done (WC.seq ?_)
 refine leV fun h0101 => ?_
 refine dM (CC F Γ95 [[(gh53_, .cells #[ii c_.sites, .slice A18 x17.length c19, ii c_.nodes, .slice A23 x22.length c24, ii c_.n, ii c_.r, ii c_.w_, ii c_.group, .string c_.secret, ii c_.room, ii c_.seg, ii c_.cap, ii c_.pend, ii c_.wait, ii c_.timeout, ii c_.hintAfter, ii c_.base, ii self, .slice A62 (srtI x61).length c63, .pointer none, (pq g58), ii (ishl .i64 boot 32), .pointer none, .pointer none, .slice none 0 0, .slice none 0 0, .slice none 0 0, .map (some g51), .pointer none, .pointer none, .slice none 0 0, .slice none 0 0] 95 (0, 0))], [(g1, .cells #[ii c_.sites, .slice A18 x17.length c19, ii c_.nodes, .slice A23 x22.length c24, ii c_.n, ii c_.r, ii c_.w_, ii c_.group, .string c_.secret, ii c_.room, ii c_.seg, ii c_.cap, ii c_.pend, ii c_.wait, ii c_.timeout, ii c_.hintAfter, ii c_.base] 25 (0, 0))]]) (bo_ [1, 5] gR h0101) fun k => ?_
 change WH _ _ _ _ (CC F Γ95 [_, _, _, _, _, _, _, _]) _ 23 _ _
 refine hV 0 k (q:=moV) (k:=hV 1 k (q:=q_fl 10 qt) (k:=hV 2 k (q:=ldV 1 isAgg3) (k:=hV 3 k (q:=moV) (k:=hV 4 k (q:=q_fl 0 iU) (k:=hV 5 k (q:=ldV 1 isAgg3) (k:=hV 6 k (q:=moV) (k:=hV 7 k (q:=nlV) (k:=?_))))))))
 refine hV 8 k (q:=q_fl 18 cx) (k:=hV 9 k (q:=ldV 0 isAgg23) (k:=hV 10 k (q:=q_fl 11 kF) (k:=hV 11 k (q:=ldV 1 isAgg3) (k:=hV 12 k (q:=q_fl 16 iX) (k:=hV 13 k (q:=ldV 1 isAgg2) (k:=hV 14 k (q:=q_fl 3 ey) (k:=hV 15 k (q:=ldV 1 isAgg23) (k:=?_))))))))
 refine hV 16 k (q:=bh (v := .agg #[ii self, ii c_.sites, .slice A62 (srtI x61).length c63, ii c_.cap, ii c_.base, .slice A23 x22.length c24]) rfl (vZ rfl rfl rfl rfl rfl rfl) (fun w => by kernel_rfl)) (k:=wl_ 17 rfl ?_)
 have hc106 := ho100.capz
 refine seR 0 [_, _, _, _, _, _, _, _] fun Γ102 hl103 hr104 => ?_
 have hs105 := ho100.sl hl103 hr104
 have hc111 := (ho26.mono ((hl55.trans hl96).trans hl103)).capz
 refine seR 5 [_, _, _, _, _, _, _, _] fun Γ107 hl108 hr109 => ?_
 have hs110 := (ho26.mono ((hl55.trans hl96).trans hl103)).sl hl108 hr109
 obtain ⟨z112, hz113, h⟩ := bnd h
 refine ecV [7] (caV call30) (fun w hp => m8 (hd.mono ((((hl16.trans hl55).trans hl96).trans hl103).trans hl108)) c_.seg hc_.2.2.2.2.2.2.2.2.2.2.1 (⟨self, c_.sites, (srtI x61), c_.cap, c_.base, x22⟩ : aD) ⟨hself, hc_.1, ⟨hc106, (hs105.mono hl108)⟩, hc_.2.2.2.2.2.2.2.2.2.2.2.1, hc_.2.2.2.2.2.2.2.2.2.2.2.2.2.2.2.2, ⟨hc111, hs110⟩⟩ hp hz113) ?_
 rintro Γ114 _ _ hl115 ⟨row118, g120, row121, rfl, rfl, hr119, hr122, hr123, _⟩
 refine cwV 115 [_, _, _, _, _, _, _, _, _] ?_
 refine WR.nil (nxV (bo_ [3, 7] ((hl103.trans hl108).trans hl115) h0101) fun k => ?_)
 refine hV 18 k (q:=moV) (k:=hV 19 k (q:=exV) (k:=hV 20 k (q:=exV) (k:=hV 21 k (q:=fN (v := optp z112.2.1 g120) rfl (by kernel_rfl)) (k:=hV 22 k (q:=aoV) (k:=?_)))))
 refine WH.done (by kernel_rfl) ?_
 change WC _ _ _ _ _ _
 refine WC.seq (WC.rs (mV (k:=sV ci (k:=WR.done ?_))))
 refine ciV h (fun hb124 h => ?_) (fun hb124 h => ?_)
 ·
  refine WC.rs (mV (k:=aV (k:=aV (k:=WR.done ?_))))
  refine WC.ret ?_
  intro w hw
  have hw := hw.pad
  exact re_ r [1, 0] h hF hw ⟨row118, 0, [], rfl, rfl, hr119, rfl, hr123, trivial⟩
 refine WC.skip (wc_ (WC.rs (mV (k:=mU (v := optp z112.2.1 g120) (k:=sV nlV (k:=sV (q_fl 19 ly) (k:=?_)))))))
 refine e_st (i := 3) (v := optp z112.2.1 g120) (new := #[ii c_.sites, .slice A18 x17.length c19, ii c_.nodes, .slice A23 x22.length c24, ii c_.n, ii c_.r, ii c_.w_, ii c_.group, .string c_.secret, ii c_.room, ii c_.seg, ii c_.cap, ii c_.pend, ii c_.wait, ii c_.timeout, ii c_.hintAfter, ii c_.base, ii self, .slice A62 (srtI x61).length c63, optp z112.2.1 g120, (pq g58), ii (ishl .i64 boot 32), .pointer none, .pointer none, .slice none 0 0, .slice none 0 0, .slice none 0 0, .map (some g51), .pointer none, .pointer none, .slice none 0 0, .slice none 0 0]) rfl sizeOf86 rfl rfl rfl rfl (by kernel_rfl) (by generalize z112.2.1 = q0_; cases q0_ <;> rfl) (by generalize z112.2.1 = q0_; cases q0_ <;> rfl) (by generalize z112.2.1 = q0_; cases q0_ <;> rfl) (by generalize z112.2.1 = q0_; cases q0_ <;> rfl) ?_
 refine WR.done (WC.rs (mV (k:=aV (k:=aV (k:=WR.done ?_)))))
 refine WC.ret ?_
 intro w hw
 obtain ⟨z125, hz126, h⟩ := bnd h
 have ho127 := jn hr122 hz126
 have hc128 : optp z112.2.1 g120 = (pq g120) := ft rfl hz126
 rw [hc128] at hw
 have hc133 := (ho21.mono ((((hl55.trans hl96).trans hl103).trans hl108).trans hl115)).capz
 obtain ⟨Γ129, hw, hl130, hr131⟩ := hw.seal (i := 6) rfl; have hs132 := (ho21.mono ((((hl55.trans hl96).trans hl103).trans hl108).trans hl115)).sl hl130 hr131
 obtain ⟨hk135, h⟩ := ah h
 obtain ⟨row_134, hrow_134, hob_134⟩ : ∃ rw : Rowb, rw = ([[(gh53_, .cells #[ii c_.sites, .slice A18 x17.length c19, ii c_.nodes, .slice A23 x22.length c24, ii c_.n, ii c_.r, ii c_.w_, ii c_.group, .string c_.secret, ii c_.room, ii c_.seg, ii c_.cap, ii c_.pend, ii c_.wait, ii c_.timeout, ii c_.hintAfter, ii c_.base, ii self, .slice A62 (srtI x61).length c63, (pq g120), (pq g58), ii (ishl .i64 boot 32), .pointer none, .pointer none, .slice none 0 0, .slice none 0 0, .slice none 0 0, .map (some g51), .pointer none, .pointer none, .slice none 0 0, .slice none 0 0] 95 (0, 0))], row121] : List Rowb).flatten ∧ au.ob (95, gd) Γ129 gh53_ rw (⟨c_.sites, x17, c_.nodes, x22, c_.n, c_.r, c_.w_, c_.group, c_.secret, c_.room, c_.seg, c_.cap, c_.pend, c_.wait, c_.timeout, c_.hintAfter, c_.base, self, (srtI x61), z125, (ishl .i64 boot 32)⟩ : au) := ⟨_, rfl, A18, c19, A23, c24, A62, c63, g120, row121, ((pq g58)), (.map (some g51)), rfl, hc_.1, hc133, hs132, hc_.2.2.1, hc111, (hs110.mono (hl115.trans hl130)), hc_.2.2.2.2.1, hc_.2.2.2.2.2.1, hc_.2.2.2.2.2.2.1, hc_.2.2.2.2.2.2.2.1, hc_.2.2.2.2.2.2.2.2.1, hc_.2.2.2.2.2.2.2.2.2.1, hc_.2.2.2.2.2.2.2.2.2.2.1, hc_.2.2.2.2.2.2.2.2.2.2.2.1, hc_.2.2.2.2.2.2.2.2.2.2.2.2.1, hc_.2.2.2.2.2.2.2.2.2.2.2.2.2.1, hc_.2.2.2.2.2.2.2.2.2.2.2.2.2.2.1, hc_.2.2.2.2.2.2.2.2.2.2.2.2.2.2.2.1, hc_.2.2.2.2.2.2.2.2.2.2.2.2.2.2.2.2, hself, hc106, (hs105.mono ((hl108.trans hl115).trans hl130)), (ho127.mono hl130), (dP hk135), trivial⟩
 have hw := hw.fold (is := [3, 1]) rfl hrow_134
 obtain rfl := Option.some.inj h
 subst hF
 exact bO (is := [1, 0]) (by kernel_rfl) hw rfl ⟨row118, gh53_, row_134, rfl, rfl, (hr119.mono hl130), hob_134, iV, trivial⟩
theorem iY (secret : ByteArray) (hsecret : secret.size ≤ lim) (group : Int) (hgroup : I64 group) (hs : Sat Γ w0) {r : Bool} (h : df secret group = some r) : CQ Tryz.prog 48 #[.string secret, ii group] w0 (.bool r) := by
 refine goQ [4] func48 ntmps48 results48 hs fun F hF => ?_
 refine WC.rs (aV (k:=WR.done (WC.rs (mV (k:=sV sU (k:=mV (k:=vG1 (h:=fun hg1 => moV) (k:=?_))))))))
 refine vG1 (h:=fun hg2 => aQ rfl underlying9 (grV hg2)) (k:=vG1 (h:=fun hg3 => dc rfl (grV hg3)) (k:=sV pkA (k:=mV (k:=vG1 (h:=fun hg4 => moV) (k:=vG1 (h:=fun hg5 => bX rfl (grV hg5)) (k:=sV pkA (k:=aV (k:=?_))))))))
 refine WR.done ?_
 exact WC.ret fun w hw => rq_ r h hF hw
theorem iF (d : Dot) (hd : Dot.fits Γ  d) (hs : Sat Γ w0) {r : Bool} (h : eb d = some r) : CQ Tryz.prog 100 #[.agg (Dot.cs d).toArray] w0 (.bool r) := by
 refine goQ [2] func100 ntmps100 results100 hs fun F hF => ?_
 refine WC.rs ?_
 refine bxV (v := .agg (Dot.cs d).toArray) fun g1 => ?_
 refine aV (k:=WR.done (WC.rs (sV (q_fl 0 iL) (k:=sV (ldV 0 isAgg3) (k:=sV bX (k:=mV (k:=vG1 (h:=fun hg2 => q_fl 0 iL) (k:=?_))))))))
 refine vG1 (h:=fun hg3 => ldV 0 isAgg3 (hx:=grV hg3)) (k:=vG1 (h:=fun hg4 => dc rfl (grV hg4)) (k:=sV pkA (k:=mV (k:=vG1 (h:=fun hg5 => q_fl 1 iO) (k:=vG1 (h:=fun hg6 => ldV 0 isAgg2 (hx:=grV hg6)) (k:=vG1 (h:=fun hg7 => bX rfl (grV hg7)) (k:=sV pkA (k:=?_))))))))
 refine mV (k:=vG1 (h:=fun hg8 => q_fl 1 iO) (k:=vG1 (h:=fun hg9 => ldV 0 isAgg2 (hx:=grV hg9)) (k:=vG1 (h:=fun hg10 => dc rfl (grV hg10)) (k:=sV pkA (k:=aV (k:=WR.done ?_))))))
 exact WC.ret fun w hw => rq_ r h hF hw
theorem gT {Al : Option Addr} {cl : Nat} {l : List Span} (hl : Sl aW Γ Al l) (hlc : l.length ≤ cl) (hs : Sat Γ w0) {r : Bool} (h : cJ l = some r) : CQ Tryz.prog 49 #[.slice Al l.length cl] w0 (.bool r) := by
 refine goQ [2] func49 ntmps49 results49 hs fun F hF => ?_
 refine WC.rs (aV (k:=WR.done (WC.seq (WC.rs (mV (k:=sV (ai rfl underlying54) (k:=sV bJ (k:=?_))))))))
 refine WR.done ?_
 refine ciV h (fun hb1 h => ?_) (fun hb1 h => ?_)
 ·
  refine WC.rs (aV (k:=WR.done ?_))
  exact WC.ret fun w hw => rq_ r h hF hw
 refine WC.skip (wc_ (WC.seq (WC.rs (aV (k:=WR.done (WC.block ?_))))))
 refine WC.forI h (fun (i3 : Nat) (s : Unit) σ w => match s with | () => slots σ [(0, .slice Al l.length cl), (3, ii (i3 : Int))] ∧ CC F Γ [] w ∧ True) ?_ ?_
 ·
  intro w hw
  exact ⟨slK, hw, trivial⟩
 rintro f2 i3 ⟨⟩ σ w hi4 hlt5 hge6 ⟨hsl, hw, -⟩
 refine slV hsl hw [] ?_; clear hw hsl
 refine WC.seq (WC.rs (mV (k:=mV (k:=sV (ai rfl underlying54) (k:=sV aI (k:=WR.done ?_))))))
 refine coV (fun hb7 => ?_) (fun hb7 => ?_)
 ·
  have hl8 := ilt hb7
  have h := hlt5 hl8
  refine WC.skip (wc_ (WC.seq (WC.block (WC.seq (WC.seq ?_)))))
  refine drV ?_
  refine zV moV (k:=zV moV (k:=zV (bB (i := i3) underlying54 sizeOf131 rfl rfl rfl hl8 (hl.some_ hl8)) (k:=zV (aM (i3 * 3) bU rfl rfl (hl.some_ hl8) rfl) (k:=zV (q_ld (c := 0) (v := ii (gt l i3).s) (hl.spanT_at hl8).2 rfl isAgg3 rfl rfl) (k:=zV moV (k:=zV moV (k:=zV (bB (i := i3) underlying54 sizeOf131 rfl rfl rfl hl8 (hl.some_ hl8)) (k:=?_))))))))
  refine zV (aM (i3 * 3 + 1) de rfl rfl (hl.some_ hl8) rfl) (k:=zV (q_ld (c := 1) (v := ii (gt l i3).f) (hl.spanT_at hl8).2 rfl isAgg2 rfl rfl) (k:=zV (bh (v := .agg #[ii (gt l i3).s, ii (gt l i3).f]) rfl (jB rfl rfl) (fun w => by kernel_rfl)) (k:=?_)))
  obtain ⟨z9, hz10, h⟩ := bnd h
  refine wc rfl rfl rfl (dU (caV call100) (fun w hw => iF (Γ := Gh.all w) (⟨(gt l i3).s, (gt l i3).f⟩ : Dot) ⟨(hl.spanT_at hl8).1.1, (hl.spanT_at hl8).1.2.1⟩ (Sat.all w) hz10)) (zV dJ (k:=zV moV (k:=wG0 (h:=fun hg11 => moV) (k:=wG0 (h:=fun hg12 => moV) (k:=wG0 (h:=fun hg13 => bB (i := i3) underlying54 sizeOf131 rfl (grV hg13) (grV hg13) hl8 (hl.some_ hl8)) (k:=wG0 (h:=fun hg14 => aM (i3 * 3) bU rfl (grV hg14) (hl.some_ hl8) rfl) (k:=wG0 (h:=fun hg15 => q_ld (c := 0) (v := ii (gt l i3).s) (hl.spanT_at hl8).2 rfl isAgg3 (grV hg15) rfl) (k:=?_))))))))
  refine wG0 (h:=fun hg16 => moV) (k:=wG0 (h:=fun hg17 => moV) (k:=wG0 (h:=fun hg18 => bB (i := i3) underlying54 sizeOf131 rfl (grV hg18) (grV hg18) hl8 (hl.some_ hl8)) (k:=wG0 (h:=fun hg19 => aM (i3 * 3 + 2) cS rfl (grV hg19) (hl.some_ hl8) rfl) (k:=wG0 (h:=fun hg20 => q_ld (c := 2) (v := ii (gt l i3).t) (hl.spanT_at hl8).2 rfl isAgg2 (grV hg20) rfl) (k:=wG0 (h:=fun hg21 => bh (v := .agg #[ii (gt l i3).s, ii (gt l i3).t]) rfl (jB (grV hg21) (grV hg21)) (fun w => by kernel_rfl)) (k:=?_))))))
  obtain ⟨z23, hz24, h⟩ := bnd h
  refine wC0 (h:=fun hg22 => dU (ew call100 rfl rfl (nh (grV hg22))) (fun w hw => iF (Γ := Gh.all w) (⟨(gt l i3).s, (gt l i3).t⟩ : Dot) ⟨(hl.spanT_at hl8).1.1, (hl.spanT_at hl8).1.2.2⟩ (Sat.all w) (nv hz24 hg22))) (k:=wG0 (h:=fun hg25 => dJ rfl (grV hg25)) (k:=zV pkO (k:=zV moV (k:=wG0 (h:=fun hg26 => moV) (k:=wG0 (h:=fun hg27 => moV) (k:=wG0 (h:=fun hg28 => bB (i := i3) underlying54 sizeOf131 rfl (grV hg28) (grV hg28) hl8 (hl.some_ hl8)) (k:=wG0 (h:=fun hg29 => aM (i3 * 3 + 1) de rfl (grV hg29) (hl.some_ hl8) rfl) (k:=?_))))))))
  refine wG0 (h:=fun hg30 => q_ld (c := 1) (v := ii (gt l i3).f) (hl.spanT_at hl8).2 rfl isAgg2 (grV hg30) rfl) (k:=wG0 (h:=fun hg31 => moV) (k:=wG0 (h:=fun hg32 => moV) (k:=wG0 (h:=fun hg33 => bB (i := i3) underlying54 sizeOf131 rfl (grV hg33) (grV hg33) hl8 (hl.some_ hl8)) (k:=wG0 (h:=fun hg34 => aM (i3 * 3 + 2) cS rfl (grV hg34) (hl.some_ hl8) rfl) (k:=wG0 (h:=fun hg35 => q_ld (c := 2) (v := ii (gt l i3).t) (hl.spanT_at hl8).2 rfl isAgg2 (grV hg35) rfl) (k:=wG0 (h:=fun hg36 => bJ rfl (grV hg36) (grV hg36)) (k:=zV pkO (k:=?_))))))))
  refine WQ.nil ?_
  change WC _ _ _ _ _ _
  refine ciV h (fun hb37 h => ?_) (fun hb37 h => ?_)
  ·
   refine WC.rs (aV (k:=WR.done ?_))
   exact WC.ret fun w hw => rq_ r h hF hw
  refine WC.skip (wc_ (WC.seq ?_))
  refine drV ?_
  refine zV moV (k:=zV bJ (k:=zV moV (k:=wG1 (h:=fun hg38 => moV) (k:=wG1 (h:=fun hg39 => moV) (k:=wG1 (h:=fun hg40 => bB (i := i3) underlying54 sizeOf131 rfl (grV hg40) (grV hg40) hl8 (hl.some_ hl8)) (k:=wG1 (h:=fun hg41 => aM (i3 * 3) bU rfl (grV hg41) (hl.some_ hl8) rfl) (k:=wG1 (h:=fun hg42 => q_ld (c := 0) (v := ii (gt l i3).s) (hl.spanT_at hl8).2 rfl isAgg3 (grV hg42) rfl) (k:=?_))))))))
  refine wG1 (h:=fun hg43 => moV) (k:=wG1 (h:=fun hg44 => moV) (k:=wG1 (h:=fun hg45 => eI rfl (grV hg45)) (k:=?_)))
  obtain ⟨hk47, h⟩ := ah h
  refine wG1 (h:=fun hg46 => q_ix underlying54 sizeOf131 rfl (grV hg46) (grV hg46) (bK hk47 hg46) (hl.some_ (cw (bK hk47 hg46)))) (k:=wG1 (h:=fun hg48 => aM (((w64 ((i3 : Int) - 1)).toNat) * 3) bU rfl (grV hg48) (hl.some_ (cw (bK hk47 hg48))) rfl) (k:=wG1 (h:=fun hg49 => q_ld (c := 0) (v := ii (gt l ((w64 ((i3 : Int) - 1)).toNat)).s) (hl.spanT_at (cw (bK hk47 hg49))).2 rfl isAgg3 (grV hg49) rfl) (k:=wG1 (h:=fun hg50 => aI rfl (grV hg50) (grV hg50)) (k:=wG1 (h:=fun hg51 => cI (v := .bool (decide ((gt l i3).s < (gt l ((w64 ((i3 : Int) - 1)).toNat)).s))) rfl (grV hg51)) (k:=wh0 (c0 := (decide (0 < (i3 : Int)))) (g := (decide ((gt l i3).s < (gt l ((w64 ((i3 : Int) - 1)).toNat)).s))) rfl rfl rfl rfl rfl (fun _ => QV.qo moV) (wh0 (c0 := (decide (0 < (i3 : Int)))) (g := (decide ((gt l i3).s < (gt l ((w64 ((i3 : Int) - 1)).toNat)).s))) rfl rfl rfl rfl rfl (fun _ => QV.qo moV) (wh0 (c0 := (decide (0 < (i3 : Int)))) (g := (decide ((gt l i3).s < (gt l ((w64 ((i3 : Int) - 1)).toNat)).s))) rfl rfl rfl rfl rfl (fun hg54 => QV.qo (bB (i := i3) underlying54 sizeOf131 rfl (grV hg54) (grV hg54) hl8 (hl.some_ hl8))) ?_)))))))
  refine wh0 (c0 := (decide (0 < (i3 : Int)))) (g := (decide ((gt l i3).s < (gt l ((w64 ((i3 : Int) - 1)).toNat)).s))) rfl rfl rfl rfl rfl (fun hg55 => QV.qo (aM (i3 * 3) bU rfl (grV hg55) (hl.some_ hl8) rfl)) (wh0 (c0 := (decide (0 < (i3 : Int)))) (g := (decide ((gt l i3).s < (gt l ((w64 ((i3 : Int) - 1)).toNat)).s))) rfl rfl rfl rfl rfl (fun hg56 => QV.qo (q_ld (c := 0) (v := ii (gt l i3).s) (hl.spanT_at hl8).2 rfl isAgg3 (grV hg56) rfl)) (wh0 (c0 := (decide (0 < (i3 : Int)))) (g := (decide ((gt l i3).s < (gt l ((w64 ((i3 : Int) - 1)).toNat)).s))) rfl rfl rfl rfl rfl (fun _ => QV.qo moV) (wh0 (c0 := (decide (0 < (i3 : Int)))) (g := (decide ((gt l i3).s < (gt l ((w64 ((i3 : Int) - 1)).toNat)).s))) rfl rfl rfl rfl rfl (fun _ => QV.qo moV) (wh0 (c0 := (decide (0 < (i3 : Int)))) (g := (decide ((gt l i3).s < (gt l ((w64 ((i3 : Int) - 1)).toNat)).s))) rfl rfl rfl rfl rfl (fun hg59 => QV.qo (eI rfl (grV hg59))) (wh0 (c0 := (decide (0 < (i3 : Int)))) (g := (decide ((gt l i3).s < (gt l ((w64 ((i3 : Int) - 1)).toNat)).s))) rfl rfl rfl rfl rfl (fun hg60 => QV.qo (q_ix underlying54 sizeOf131 rfl (grV hg60) (grV hg60) (bK hk47 (av hg60)) (hl.some_ (cw (bK hk47 (av hg60)))))) ?_)))))
  refine wh0 (c0 := (decide (0 < (i3 : Int)))) (g := (decide ((gt l i3).s < (gt l ((w64 ((i3 : Int) - 1)).toNat)).s))) rfl rfl rfl rfl rfl (fun hg61 => QV.qo (aM (((w64 ((i3 : Int) - 1)).toNat) * 3) bU rfl (grV hg61) (hl.some_ (cw (bK hk47 (av hg61)))) rfl)) (wh0 (c0 := (decide (0 < (i3 : Int)))) (g := (decide ((gt l i3).s < (gt l ((w64 ((i3 : Int) - 1)).toNat)).s))) rfl rfl rfl rfl rfl (fun hg62 => QV.qo (q_ld (c := 0) (v := ii (gt l ((w64 ((i3 : Int) - 1)).toNat)).s) (hl.spanT_at (cw (bK hk47 (av hg62)))).2 rfl isAgg3 (grV hg62) rfl)) (wh0 (c0 := (decide (0 < (i3 : Int)))) (g := (decide ((gt l i3).s < (gt l ((w64 ((i3 : Int) - 1)).toNat)).s))) rfl rfl rfl rfl rfl (fun hg63 => QV.qo (dl rfl (grV hg63) (grV hg63))) (wh0 (c0 := (decide (0 < (i3 : Int)))) (g := (decide ((gt l i3).s < (gt l ((w64 ((i3 : Int) - 1)).toNat)).s))) rfl rfl rfl rfl rfl (fun hg64 => QV.qo (cI (v := .bool ((gt l i3).s == (gt l ((w64 ((i3 : Int) - 1)).toNat)).s)) rfl (grV hg64))) (wh1 (c0 := ((decide (0 < (i3 : Int))) && (!(decide ((gt l i3).s < (gt l ((w64 ((i3 : Int) - 1)).toNat)).s))))) (g := ((gt l i3).s == (gt l ((w64 ((i3 : Int) - 1)).toNat)).s)) rfl rfl rfl rfl rfl (fun _ => QV.qo moV) ?_))))
  refine wh1 (c0 := ((decide (0 < (i3 : Int))) && (!(decide ((gt l i3).s < (gt l ((w64 ((i3 : Int) - 1)).toNat)).s))))) (g := ((gt l i3).s == (gt l ((w64 ((i3 : Int) - 1)).toNat)).s)) rfl rfl rfl rfl rfl (fun _ => QV.qo moV) (wh1 (c0 := ((decide (0 < (i3 : Int))) && (!(decide ((gt l i3).s < (gt l ((w64 ((i3 : Int) - 1)).toNat)).s))))) (g := ((gt l i3).s == (gt l ((w64 ((i3 : Int) - 1)).toNat)).s)) rfl rfl rfl rfl rfl (fun hg67 => QV.qo (bB (i := i3) underlying54 sizeOf131 rfl (grV hg67) (grV hg67) hl8 (hl.some_ hl8))) (wh1 (c0 := ((decide (0 < (i3 : Int))) && (!(decide ((gt l i3).s < (gt l ((w64 ((i3 : Int) - 1)).toNat)).s))))) (g := ((gt l i3).s == (gt l ((w64 ((i3 : Int) - 1)).toNat)).s)) rfl rfl rfl rfl rfl (fun hg68 => QV.qo (aM (i3 * 3 + 1) de rfl (grV hg68) (hl.some_ hl8) rfl)) (wh1 (c0 := ((decide (0 < (i3 : Int))) && (!(decide ((gt l i3).s < (gt l ((w64 ((i3 : Int) - 1)).toNat)).s))))) (g := ((gt l i3).s == (gt l ((w64 ((i3 : Int) - 1)).toNat)).s)) rfl rfl rfl rfl rfl (fun hg69 => QV.qo (q_ld (c := 1) (v := ii (gt l i3).f) (hl.spanT_at hl8).2 rfl isAgg2 (grV hg69) rfl)) (wh1 (c0 := ((decide (0 < (i3 : Int))) && (!(decide ((gt l i3).s < (gt l ((w64 ((i3 : Int) - 1)).toNat)).s))))) (g := ((gt l i3).s == (gt l ((w64 ((i3 : Int) - 1)).toNat)).s)) rfl rfl rfl rfl rfl (fun hg70 => QV.qo (eI rfl (grV hg70))) ?_))))
  refine wh1 (c0 := ((decide (0 < (i3 : Int))) && (!(decide ((gt l i3).s < (gt l ((w64 ((i3 : Int) - 1)).toNat)).s))))) (g := ((gt l i3).s == (gt l ((w64 ((i3 : Int) - 1)).toNat)).s)) rfl rfl rfl rfl rfl (fun _ => QV.qo moV) (wh1 (c0 := ((decide (0 < (i3 : Int))) && (!(decide ((gt l i3).s < (gt l ((w64 ((i3 : Int) - 1)).toNat)).s))))) (g := ((gt l i3).s == (gt l ((w64 ((i3 : Int) - 1)).toNat)).s)) rfl rfl rfl rfl rfl (fun _ => QV.qo moV) (wh1 (c0 := ((decide (0 < (i3 : Int))) && (!(decide ((gt l i3).s < (gt l ((w64 ((i3 : Int) - 1)).toNat)).s))))) (g := ((gt l i3).s == (gt l ((w64 ((i3 : Int) - 1)).toNat)).s)) rfl rfl rfl rfl rfl (fun hg73 => QV.qo (eI rfl (grV hg73))) (wh1 (c0 := ((decide (0 < (i3 : Int))) && (!(decide ((gt l i3).s < (gt l ((w64 ((i3 : Int) - 1)).toNat)).s))))) (g := ((gt l i3).s == (gt l ((w64 ((i3 : Int) - 1)).toNat)).s)) rfl rfl rfl rfl rfl (fun hg74 => QV.qo (q_ix underlying54 sizeOf131 rfl (grV hg74) (grV hg74) (bK hk47 (av (av hg74))) (hl.some_ (cw (bK hk47 (av (av hg74))))))) (wh1 (c0 := ((decide (0 < (i3 : Int))) && (!(decide ((gt l i3).s < (gt l ((w64 ((i3 : Int) - 1)).toNat)).s))))) (g := ((gt l i3).s == (gt l ((w64 ((i3 : Int) - 1)).toNat)).s)) rfl rfl rfl rfl rfl (fun hg75 => QV.qo (aM (((w64 ((i3 : Int) - 1)).toNat) * 3 + 2) cS rfl (grV hg75) (hl.some_ (cw (bK hk47 (av (av hg75))))) rfl)) ?_))))
  refine wh1 (c0 := ((decide (0 < (i3 : Int))) && (!(decide ((gt l i3).s < (gt l ((w64 ((i3 : Int) - 1)).toNat)).s))))) (g := ((gt l i3).s == (gt l ((w64 ((i3 : Int) - 1)).toNat)).s)) rfl rfl rfl rfl rfl (fun hg76 => QV.qo (q_ld (c := 2) (v := ii (gt l ((w64 ((i3 : Int) - 1)).toNat)).t) (hl.spanT_at (cw (bK hk47 (av (av hg76))))).2 rfl isAgg2 (grV hg76) rfl)) (wh1 (c0 := ((decide (0 < (i3 : Int))) && (!(decide ((gt l i3).s < (gt l ((w64 ((i3 : Int) - 1)).toNat)).s))))) (g := ((gt l i3).s == (gt l ((w64 ((i3 : Int) - 1)).toNat)).s)) rfl rfl rfl rfl rfl (fun hg77 => QV.qo (dc rfl (grV hg77) (grV hg77))) (wh0 (c0 := (decide (0 < (i3 : Int)))) (g := (decide ((gt l i3).s < (gt l ((w64 ((i3 : Int) - 1)).toNat)).s))) rfl rfl rfl rfl rfl (fun hg78 => QV.qo (fU rfl (grV hg78) (mJ (c := ((decide (0 < (i3 : Int))) && (!(decide ((gt l i3).s < (gt l ((w64 ((i3 : Int) - 1)).toNat)).s))))) (g := ((gt l i3).s == (gt l ((w64 ((i3 : Int) - 1)).toNat)).s)) (y := (decide ((w64 ((gt l i3).f - 1)) ≤ (gt l ((w64 ((i3 : Int) - 1)).toNat)).t))) hg78))) (wG1 (h:=fun hg79 => fU rfl (grV hg79) (zJ (c := (decide (0 < (i3 : Int)))) (g := (decide ((gt l i3).s < (gt l ((w64 ((i3 : Int) - 1)).toNat)).s))) (y := (((gt l i3).s == (gt l ((w64 ((i3 : Int) - 1)).toNat)).s) && (decide ((w64 ((gt l i3).f - 1)) ≤ (gt l ((w64 ((i3 : Int) - 1)).toNat)).t)))) hg79)) (k:=zV pkA (k:=?_)))))
  refine WQ.nil ?_
  change WC _ _ _ _ _ _
  refine ciV h (fun hb80 h => ?_) (fun hb80 h => ?_)
  ·
   refine WC.rs (aV (k:=WR.done ?_))
   exact WC.ret fun w hw => rq_ r h hF hw
  refine WC.skip (wc_ ?_)
  refine WC.region ?_
  refine mV (k:=sV (aK rfl rfl rfl (bx hl8 hl.le)) (k:=aV (k:=?_)))
  refine WR.nil ?_
  intro w hw
  exact ⟨hl8, (), h, slK, hw, trivial⟩
 have h := hge6 (ige hb7)
 refine WC.exit ?_
 change WC _ _ _ _ _ _
 refine WC.rs (aV (k:=WR.done ?_))
 exact WC.ret fun w hw => rq_ r h hF hw
abbrev kM (r : List UInt8) (U : List Rowb) (Γ : Gh) (v : Value) : Prop := ∃ (A0 : Option Addr), ∃ (c0 : Nat), ∃ (row0 : Rowb), v = .slice A0 r.length c0 ∧ U = [row0] ∧ Own ar Γ 5 row0 A0 c0 r ∧ True
theorem b5 (n : Int) (hn : I64 n) (hp : Pre [] Γ w0) {r : List UInt8} (h : aG n = some r) : Calls Tryz.prog 50 #[ii n] w0 (Outc Γ [] w0 (kM r)) := by
 refine goV [2] func50 ntmps50 results50 hp fun F hF => ?_
 refine WC.rs (aV (k:=WR.done ?_))
 refine WC.cut (fun σ w => ∃ (n_1 : Int), cz n_1 = some r ∧ slots σ [(0, ii n_1)] ∧ CC F Γ [] w ∧ I64 n_1 ∧ True) ?_ ?_
 ·
  refine WC.rs (mV (k:=sV aI (k:=WR.done ?_)))
  refine ciV h (fun hb3 h => ?_) (fun hb3 h => ?_)
  ·
   refine WC.region ?_
   refine aV (k:=?_)
   refine WR.nil ?_
   intro w hw
   exact ⟨0, h, slK, hw, iV, trivial⟩
  refine WC.skip ?_
  intro w hw
  exact ⟨n, h, slK, hw, hn, trivial⟩
 rintro σ w ⟨n_1, h, hsl, hw, hr2, -⟩
 refine slV hsl hw [] ?_; clear hw hsl
 refine WC.rs (aV (k:=WR.done (WC.seq (WC.block ?_))))
 refine WC.loopN h (fun (s : Int × (List UInt8)) σ w => match s with | (n_4, b_6) => ∃ (A7 : Option Addr), ∃ (c8 : Nat), ∃ (row9 : Rowb), slots σ [(0, ii n_4), (3, .slice A7 b_6.length c8)] ∧ CC F Γ [row9] w ∧ I64 n_4 ∧ Own ar Γ 5 row9 A7 c8 b_6 ∧ True) ?_ ?_
 ·
  intro w hw
  have hw := hw.pad
  exact ⟨none, 0, [], slK, hw, hr2, (Own.nil ar _ 5), trivial⟩
 rintro f11 ⟨n_4, b_6⟩ σ w h ⟨A7, c8, row9, hsl, hw, hr5, ho10, -⟩
 refine slV hsl hw [_] ?_; clear hw hsl
 refine WC.seq (WC.rs (mV (k:=sV bX (k:=WR.done ?_))))
 refine ciV h (fun hb15 h => ?_) (fun hb15 h => ?_)
 ·
  refine WC.skip (wc_ (WC.block (WC.rs (mV (k:=mV (k:=sV (sG rfl rfl rfl (by decide)) (k:=sV cK (k:=?_))))))))
  refine sV (cj underlying5 underlying2) (k:=?_)
  refine bsV #[.int .u8 (wu8 (w64 ((n_4.tmod 128) + 128)))] 5 fun g16 => ?_
  obtain ⟨hk17, h⟩ := ah h
  refine apV 1 [(b8 (wu8 (w64 ((n_4.tmod 128) + 128))))] bq ho10 (of_decide_eq_true hk17) (fun w hw => bw (i := 0) rfl (by exact (by show [Value.int .u8 (wu8 (w64 ((n_4.tmod 128) + 128)))] = [Value.int .u8 _]; rw [fS (pp _)])) hw) ?_
  intro row18 A19 c20 ho21
  refine aV (k:=WR.done ?_)
  refine WC.region ?_
  refine mV (k:=sV (nl rfl rfl rfl (by decide)) (k:=aV (k:=?_)))
  refine WR.nil ?_
  intro w hw
  exact ⟨((w64 (n_4.tdiv 128)), (b_6 ++ [(b8 (wu8 (w64 ((n_4.tmod 128) + 128))))])), h, A19, c20, row18, slK, (hw.on [1]), (dL _), ho21, trivial⟩
 refine WC.exit ?_
 change WC _ _ _ _ _ _
 refine WC.rs (mV (k:=mV (k:=sV (cj underlying5 underlying2) (k:=?_))))
 refine bsV #[.int .u8 (wu8 n_4)] 5 fun g22 => ?_
 obtain ⟨hk23, h⟩ := ah h
 refine apV 1 [(b8 (wu8 n_4))] bq ho10 (of_decide_eq_true hk23) (fun w hw => bw (i := 0) rfl (by exact (by show [Value.int .u8 (wu8 n_4)] = [Value.int .u8 _]; rw [fS (pp _)])) hw) ?_
 intro row24 A25 c26 ho27
 refine aV (k:=WR.done ?_)
 exact WC.ret fun w hw => re_ r [1] h hF hw ⟨A25, c26, row24, rfl, rfl, ho27, trivial⟩
abbrev lT (r : List UInt8) (U : List Rowb) (Γ : Gh) (v : Value) : Prop := ∃ (A0 : Option Addr), ∃ (c0 : Nat), ∃ (row0 : Rowb), v = .slice A0 r.length c0 ∧ U = [row0] ∧ Own ar Γ 5 row0 A0 c0 r ∧ True
theorem hP {Ab : Option Addr} {cb : Nat} {rowb : Rowb} {b : List UInt8} (hb : Own ar Γ 5 rowb Ab cb b) {Al : Option Addr} {cl : Nat} {l : List Int} (hl : Sl intT Γ Al l) (hlc : l.length ≤ cl) (hp : Pre [rowb] Γ w0) {r : List UInt8} (h : dK b l = some r) : Calls Tryz.prog 207 #[.slice Ab b.length cb, .slice Al l.length cl] w0 (Outc Γ [rowb] w0 (lT r)) := by
 refine goV [4] func207 ntmps207 results207 hp fun F hF => ?_
 refine WC.rs (aV (k:=WR.done (WC.seq (WC.rs (aV (k:=WR.done (WC.block ?_)))))))
 refine WC.forI h (fun (i9 : Nat) (b_3 : List UInt8) σ w => ∃ (Γ1 : Gh), ∃ (A4 : Option Addr), ∃ (c5 : Nat), ∃ (row6 : Rowb), slots σ [(0, .slice A4 b_3.length c5), (1, .slice Al l.length cl), (5, ii (i9 : Int))] ∧ CC F Γ1 [row6] w ∧ Gh.le Γ Γ1 ∧ Own ar Γ1 5 row6 A4 c5 b_3 ∧ True) ?_ ?_
 ·
  intro w hw
  exact ⟨Γ, Ab, cb, rowb, slK, hw, gR, hb, trivial⟩
 rintro f8 i9 b_3 σ w hi10 hlt11 hge12 ⟨Γ1, A4, c5, row6, hsl, hw, hl2, ho7, -⟩
 refine slV hsl hw [_] ?_; clear hw hsl
 refine WC.seq (WC.rs (mV (k:=mV (k:=sV (ai rfl underlying44) (k:=sV aI (k:=WR.done ?_))))))
 refine coV (fun hb13 => ?_) (fun hb13 => ?_)
 ·
  have hl14 := ilt hb13
  have h := hlt11 hl14
  refine WC.skip (wc_ (WC.seq (WC.block ?_)))
  refine WC.region ?_
  refine mV (k:=mV (k:=mV (k:=sV (bB (i := i9) underlying44 sizeOf2 rfl rfl rfl hl14 ((hl.mono hl2).some_ hl14)) (k:=sV (q_ld (c := 0) (v := ii (gt l i9)) ((hl.mono hl2).intT_at hl14).2 rfl isAgg2 rfl rfl) (k:=?_)))))
  obtain ⟨z15, hz16, h⟩ := bnd h
  refine ecV [] (caV call50) (fun w hp => b5 (gt l i9) ((hl.mono hl2).intT_at hl14).1 hp hz16) ?_
  rintro Γ17 _ _ hl18 ⟨A21, c22, row23, rfl, rfl, hr24, _⟩
  refine cwV 17 [_, _] ?_
  obtain ⟨hk25, h⟩ := ah h
  refine apV 1 z15 bq (ho7.mono hl18) (of_decide_eq_true hk25) (fun w hw => d9 (i := 0) rfl hr24 hw) ?_
  intro row26 A27 c28 ho29
  refine aV (k:=?_)
  refine WR.nil ?_
  change WC _ _ _ _ _ _
  refine WC.region ?_
  refine mV (k:=sV (aK rfl rfl rfl (bx hl14 (hl.mono hl2).le)) (k:=aV (k:=?_)))
  refine WR.nil ?_
  intro w hw
  exact ⟨hl14, (b_3 ++ z15), h, Γ17, A27, c28, row26, slK, (hw.on [1]), (hl2.trans hl18), ho29, trivial⟩
 have h := hge12 (ige hb13)
 refine WC.exit ?_
 change WC _ _ _ _ _ _
 refine WC.rs (mV (k:=aV (k:=WR.done ?_)))
 exact WC.ret fun w hw => re_ r [0] h hF hw ⟨A4, c5, row6, rfl, rfl, ho7, trivial⟩
abbrev lc (r : List UInt8) (U : List Rowb) (Γ : Gh) (v : Value) : Prop := ∃ (A0 : Option Addr), ∃ (c0 : Nat), ∃ (row0 : Rowb), v = .slice A0 r.length c0 ∧ U = [row0] ∧ Own ar Γ 5 row0 A0 c0 r ∧ True
theorem l3 {Ab : Option Addr} {cb : Nat} {rowb : Rowb} {b : List UInt8} (hb : Own ar Γ 5 rowb Ab cb b) {Al : Option Addr} {cl : Nat} {l : List Span} (hl : Sl aW Γ Al l) (hlc : l.length ≤ cl) (hp : Pre [rowb] Γ w0) {r : List UInt8} (h : dw b l = some r) : Calls Tryz.prog 101 #[.slice Ab b.length cb, .slice Al l.length cl] w0 (Outc Γ [rowb] w0 (lc r)) := by
 refine goV [4] func101 ntmps101 results101 hp fun F hF => ?_
 refine WC.rs (aV (k:=WR.done (WC.rs (mV (k:=mV (k:=sV (ai rfl underlying54) (k:=?_)))))))
 refine bsV #[ii (l.length : Int)] 2 fun g1 => ?_
 have ho2 : Own intT Γ 2 [(g1, .cells #[ii (l.length : Int)] 2 (0, 0))] (some ⟨g1, 0, none⟩) 1 [(l.length : Int)] := Own.of_blockL (T := intT) (ys := [(l.length : Int)]) [[ii (l.length : Int)]] rfl (show 1 ≤ lim by decide) ⟨⟨rfl, (uC hl.le)⟩, trivial⟩
 have hc7 := ho2.capz
 refine seR 0 [_, _] fun Γ3 hl4 hr5 => ?_
 have hs6 := ho2.sl hl4 hr5
 obtain ⟨z8, hz9, h⟩ := bnd h
 refine ecV [1] (caV call207) (fun w hp => hP (hb.mono hl4) hs6 hc7 hp hz9) ?_
 rintro Γ10 _ _ hl11 ⟨A14, c15, row16, rfl, rfl, hr17, _⟩
 refine cwV 10 [_, _] (aV (k:=WR.done (WC.seq (WC.rs (aV (k:=WR.done (WC.block ?_)))))))
 refine WC.forI h (fun (i26 : Nat) (b_20 : List UInt8) σ w => ∃ (Γ18 : Gh), ∃ (A21 : Option Addr), ∃ (c22 : Nat), ∃ (row23 : Rowb), slots σ [(0, .slice A21 b_20.length c22), (1, .slice Al l.length cl), (5, ii (i26 : Int))] ∧ CC F Γ18 [row23] w ∧ Gh.le Γ10 Γ18 ∧ Own ar Γ18 5 row23 A21 c22 b_20 ∧ True) ?_ ?_
 ·
  intro w hw
  exact ⟨Γ10, A14, c15, row16, slK, (hw.on [0]), gR, hr17, trivial⟩
 rintro f25 i26 b_20 σ w hi27 hlt28 hge29 ⟨Γ18, A21, c22, row23, hsl, hw, hl19, ho24, -⟩
 refine slV hsl hw [_] ?_; clear hw hsl
 refine WC.seq (WC.rs (mV (k:=mV (k:=sV (ai rfl underlying54) (k:=sV aI (k:=WR.done ?_))))))
 refine coV (fun hb30 => ?_) (fun hb30 => ?_)
 ·
  have hl31 := ilt hb30
  have h := hlt28 hl31
  refine WC.skip (wc_ (WC.seq (WC.block ?_)))
  refine leV fun h032 => ?_
  refine dM (CC F Γ18 []) (bo_ [] gR h032) fun k => ?_
  change WH _ _ _ _ (CC F Γ18 [_]) _ 25 _ _
  refine hV 0 k (q:=moV) (k:=hV 1 k (q:=moV) (k:=hV 2 k (q:=moV) (k:=hV 3 k (q:=bB (i := i26) underlying54 sizeOf131 rfl rfl rfl hl31 ((hl.mono ((hl4.trans hl11).trans hl19)).some_ hl31)) (k:=hV 4 k (q:=aM (i26 * 3) bU rfl rfl ((hl.mono ((hl4.trans hl11).trans hl19)).some_ hl31) rfl) (k:=hV 5 k (q:=q_ld (c := 0) (v := ii (gt l i26).s) ((hl.mono ((hl4.trans hl11).trans hl19)).spanT_at hl31).2 rfl isAgg3 rfl rfl) (k:=hV 6 k (q:=moV) (k:=hV 7 k (q:=moV) (k:=?_))))))))
  refine hV 8 k (q:=bB (i := i26) underlying54 sizeOf131 rfl rfl rfl hl31 ((hl.mono ((hl4.trans hl11).trans hl19)).some_ hl31)) (k:=hV 9 k (q:=aM (i26 * 3 + 1) de rfl rfl ((hl.mono ((hl4.trans hl11).trans hl19)).some_ hl31) rfl) (k:=hV 10 k (q:=q_ld (c := 1) (v := ii (gt l i26).f) ((hl.mono ((hl4.trans hl11).trans hl19)).spanT_at hl31).2 rfl isAgg2 rfl rfl) (k:=hV 11 k (q:=moV) (k:=hV 12 k (q:=moV) (k:=hV 13 k (q:=bB (i := i26) underlying54 sizeOf131 rfl rfl rfl hl31 ((hl.mono ((hl4.trans hl11).trans hl19)).some_ hl31)) (k:=hV 14 k (q:=aM (i26 * 3 + 2) cS rfl rfl ((hl.mono ((hl4.trans hl11).trans hl19)).some_ hl31) rfl) (k:=hV 15 k (q:=q_ld (c := 2) (v := ii (gt l i26).t) ((hl.mono ((hl4.trans hl11).trans hl19)).spanT_at hl31).2 rfl isAgg2 rfl rfl) (k:=?_))))))))
  refine hV 16 k (q:=moV) (k:=hV 17 k (q:=moV) (k:=hV 18 k (q:=bB (i := i26) underlying54 sizeOf131 rfl rfl rfl hl31 ((hl.mono ((hl4.trans hl11).trans hl19)).some_ hl31)) (k:=hV 19 k (q:=aM (i26 * 3 + 1) de rfl rfl ((hl.mono ((hl4.trans hl11).trans hl19)).some_ hl31) rfl) (k:=hV 20 k (q:=q_ld (c := 1) (v := ii (gt l i26).f) ((hl.mono ((hl4.trans hl11).trans hl19)).spanT_at hl31).2 rfl isAgg2 rfl rfl) (k:=hV 21 k (q:=eI) (k:=wl_ 22 rfl ?_))))))
  refine bsV #[ii (gt l i26).s, ii (gt l i26).f, ii (w64 ((gt l i26).t - (gt l i26).f))] 2 fun g33 => ?_
  refine WR.nil (nxV (bo_ [] gR h032) fun k => ?_)
  refine wl_ 23 rfl ?_
  have ho34 : Own intT Γ18 2 [(g33, .cells #[ii (gt l i26).s, ii (gt l i26).f, ii (w64 ((gt l i26).t - (gt l i26).f))] 2 (0, 0))] (some ⟨g33, 0, none⟩) 3 [(gt l i26).s, (gt l i26).f, (w64 ((gt l i26).t - (gt l i26).f))] := Own.of_blockL (T := intT) (ys := [(gt l i26).s, (gt l i26).f, (w64 ((gt l i26).t - (gt l i26).f))]) [[ii (gt l i26).s], [ii (gt l i26).f], [ii (w64 ((gt l i26).t - (gt l i26).f))]] rfl (show 3 ≤ lim by decide) ⟨⟨rfl, ((hl.mono ((hl4.trans hl11).trans hl19)).spanT_at hl31).1.1⟩, ⟨rfl, ((hl.mono ((hl4.trans hl11).trans hl19)).spanT_at hl31).1.2.1⟩, ⟨rfl, (dL _)⟩, trivial⟩
  have hc39 := ho34.capz
  refine seR 0 [_, _] fun Γ35 hl36 hr37 => ?_
  have hs38 := ho34.sl hl36 hr37
  obtain ⟨z40, hz41, h⟩ := bnd h
  refine ecV [1] (caV call207) (fun w hp => hP (ho24.mono hl36) hs38 hc39 hp hz41) ?_
  rintro Γ42 _ _ hl43 ⟨A46, c47, row48, rfl, rfl, hr49, _⟩
  refine cwV 40 [_, _] ?_
  refine WR.nil (nxV (bo_ [] (hl36.trans hl43) h032) fun k => ?_)
  refine hV 24 k (q:=aoV) (k:=?_)
  refine WH.done (by kernel_rfl) ?_
  change WC _ _ _ _ _ _
  refine WC.region ?_
  refine mV (k:=sV (aK rfl rfl rfl (bx hl31 (hl.mono ((hl4.trans hl11).trans hl19)).le)) (k:=aV (k:=?_)))
  refine WR.nil ?_
  intro w hw
  exact ⟨hl31, z40, h, Γ42, A46, c47, row48, slK, (hw.on [0]), ((hl19.trans hl36).trans hl43), hr49, trivial⟩
 have h := hge29 (ige hb30)
 refine WC.exit ?_
 change WC _ _ _ _ _ _
 refine WC.rs (mV (k:=aV (k:=WR.done ?_)))
 exact WC.ret fun w hw => re_ r [0] h hF hw ⟨A21, c22, row23, rfl, rfl, ho24, trivial⟩
abbrev kH (r : List UInt8) (U : List Rowb) (Γ : Gh) (v : Value) : Prop := ∃ (A0 : Option Addr), ∃ (c0 : Nat), ∃ (row0 : Rowb), v = .slice A0 r.length c0 ∧ U = [row0] ∧ Own ar Γ 5 row0 A0 c0 r ∧ True
theorem kK {Al : Option Addr} {cl : Nat} {l : List Span} (hl : Sl aW Γ Al l) (hlc : l.length ≤ cl) (hp : Pre [] Γ w0) {r : List UInt8} (h : ek l = some r) : Calls Tryz.prog 51 #[.slice Al l.length cl] w0 (Outc Γ [] w0 (kH r)) := by
 refine goV [2] func51 ntmps51 results51 hp fun F hF => ?_
 refine WC.rs (aV (k:=WR.done (WC.rs (mV (k:=?_)))))
 refine WR.sub (fun w hw => hw.pad) ?_
 obtain ⟨z1, hz2, h⟩ := bnd h
 refine ecV [0] (caV call101) (fun w hp => l3 (Own.nil ar Γ 5) hl hlc hp hz2) ?_
 rintro Γ3 _ _ hl4 ⟨A7, c8, row9, rfl, rfl, hr10, _⟩
 refine cwV 4 [_] (aV (k:=WR.done ?_))
 exact WC.ret fun w hw => re_ r [0] h hF hw ⟨A7, c8, row9, rfl, rfl, hr10, trivial⟩
abbrev jM (r : List UInt8) (U : List Rowb) (Γ : Gh) (v : Value) : Prop := ∃ (A0 : Option Addr), ∃ (c0 : Nat), ∃ (row0 : Rowb), v = .slice A0 r.length c0 ∧ U = [row0] ∧ Own ar Γ 5 row0 A0 c0 r ∧ True
theorem fL (s_ : ByteArray) (hs_ : s_.size ≤ lim) (hp : Pre [] Γ w0) {r : List UInt8} (h : dZ s_ = some r) : Calls Tryz.prog 102 #[.string s_] w0 (Outc Γ [] w0 (jM r)) := by
 refine goV [2] func102 ntmps102 results102 hp fun F hF => ?_
 refine WC.rs (aV (k:=WR.done (WC.rs (mV (k:=sV (aQ rfl underlying9) (k:=?_))))))
 obtain ⟨z1, hz2, h⟩ := bnd h
 refine ecV [] (caV call50) (fun w hp => b5 (s_.size : Int) (uC hs_) hp hz2) ?_
 rintro Γ3 _ _ hl4 ⟨A7, c8, row9, rfl, rfl, hr10, _⟩
 refine cwV 7 [_] (aV (k:=WR.done (WC.seq (WC.rs (aV (k:=WR.done (WC.block ?_)))))))
 refine WC.forU h (fun (i17 : Nat) (b_11 : List UInt8) σ w => ∃ (A12 : Option Addr), ∃ (c13 : Nat), ∃ (row14 : Rowb), slots σ [(0, .string s_), (3, .slice A12 b_11.length c13), (4, ii (i17 : Int))] ∧ CC F Γ3 [row14] w ∧ Own ar Γ3 5 row14 A12 c13 b_11 ∧ True) ?_ ?_
 ·
  intro w hw
  exact ⟨A7, c8, row9, slK, hw, hr10, trivial⟩
 rintro f16 i17 b_11 σ w hi18 hlt19 hge20 ⟨A12, c13, row14, hsl, hw, ho15, -⟩
 refine slV hsl hw [_] ?_; clear hw hsl
 refine WC.seq (WC.rs (mV (k:=mV (k:=sV (aQ rfl underlying9) (k:=sV aI (k:=WR.done ?_))))))
 refine coV (fun hb21 => ?_) (fun hb21 => ?_)
 ·
  have hl22 := ilt hb21
  have h := hlt19 hl22
  refine WC.skip (wc_ (WC.seq (WC.block ?_)))
  refine WC.region ?_
  refine mV (k:=mV (k:=mV (k:=sV (ta (i := i17) underlying9 rfl rfl rfl hl22) (k:=?_))))
  refine bsV #[.int .u8 (((gt s_.data.toList i17).toNat : Nat) : Int)] 5 fun g23 => ?_
  obtain ⟨hk24, h⟩ := ah h
  refine apV 1 [(gt s_.data.toList i17)] bq ho15 (of_decide_eq_true hk24) (fun w hw => bw (i := 0) rfl (by exact rfl) hw) ?_
  intro row25 A26 c27 ho28
  refine aV (k:=?_)
  refine WR.nil ?_
  change WC _ _ _ _ _ _
  refine WC.region ?_
  refine mV (k:=sV (aK rfl rfl rfl (bx hl22 hs_)) (k:=aV (k:=?_)))
  refine WR.nil ?_
  intro w hw
  exact ⟨hl22, (b_11 ++ [(gt s_.data.toList i17)]), h, A26, c27, row25, slK, (hw.on [1]), ho28, trivial⟩
 have h := hge20 (ige hb21)
 refine WC.exit ?_
 change WC _ _ _ _ _ _
 refine WC.rs (mV (k:=aV (k:=WR.done ?_)))
 exact WC.ret fun w hw => re_ r [0] h hF hw ⟨A12, c13, row14, rfl, rfl, ho15, trivial⟩
theorem dO {Ab : Option Addr} {cb : Nat} {b : List UInt8} (hb : Sl ar Γ Ab b) (hbc : b.length ≤ cb) (hs : Sat Γ w0) {r : Int} (h : cZ b = some r) : CQ Tryz.prog 98 #[.slice Ab b.length cb] w0 (.int .u64 r) := by
 refine goQ [2] func98 ntmps98 results98 hs fun F hF => ?_
 refine WC.rs (aV (k:=WR.done (WC.rs (aV (k:=WR.done (WC.seq (WC.rs ?_)))))))
 refine aV (k:=WR.done (WC.block ?_))
 refine WC.forI h (fun (i4 : Nat) (h_1 : Int) σ w => slots σ [(0, .slice Ab b.length cb), (3, .int .u64 h_1), (4, ii (i4 : Int))] ∧ CC F Γ [] w ∧ U64 h_1 ∧ True) ?_ ?_
 ·
  intro w hw
  exact ⟨slK, hw, (show U64 14695981039346656037 by decide), trivial⟩
 rintro f3 i4 h_1 σ w hi5 hlt6 hge7 ⟨hsl, hw, hr2, -⟩
 refine slV hsl hw [] ?_; clear hw hsl
 refine WC.seq (WC.rs (mV (k:=mV (k:=sV (ai rfl underlying61) (k:=sV aI (k:=WR.done ?_))))))
 refine coV (fun hb8 => ?_) (fun hb8 => ?_)
 ·
  have hl9 := ilt hb8
  have h := hlt6 hl9
  refine WC.skip (wc_ (WC.seq (WC.block (WC.rs (mV (k:=mV (k:=mV (k:=?_))))))))
  refine sV (bB (i := i4) underlying61 sizeOf5 rfl rfl rfl hl9 (hb.some_ hl9)) (k:=sV (q_ld (c := 0) (v := .int .u8 (((gt b i4).toNat : Nat) : Int)) (hb.byteT_at hl9).2 rfl isAgg5 rfl rfl) (k:=sV (cj underlying205 underlying5) (k:=sV ny (k:=aV (k:=WR.done ?_)))))
  refine WC.region ?_
  refine mV (k:=sV iQ (k:=aV (k:=?_)))
  refine WR.nil ?_
  change WC _ _ _ _ _ _
  refine WC.region ?_
  refine mV (k:=sV (aK rfl rfl rfl (bx hl9 hb.le)) (k:=aV (k:=?_)))
  refine WR.nil ?_
  intro w hw
  exact ⟨hl9, (wu64 ((ixor .u64 h_1 (wu64 (((gt b i4).toNat : Nat) : Int))) * 1099511628211)), h, slK, hw, (mE _), trivial⟩
 have h := hge7 (ige hb8)
 refine WC.exit ?_
 change WC _ _ _ _ _ _
 refine WC.rs (mV (k:=mV (k:=sV (nl rfl rfl rfl (by decide)) (k:=sV ny (k:=aV (k:=WR.done (WC.rs ?_)))))))
 refine mV (k:=sV iQ (k:=aV (k:=WR.done (WC.rs (mV (k:=mV (k:=sV (nl rfl rfl rfl (by decide)) (k:=?_))))))))
 refine sV ny (k:=aV (k:=WR.done ?_))
 exact WC.ret fun w hw => rq_ r h hF hw
abbrev lx (r : List UInt8) (U : List Rowb) (Γ : Gh) (v : Value) : Prop := ∃ (A0 : Option Addr), ∃ (c0 : Nat), ∃ (row0 : Rowb), v = .slice A0 r.length c0 ∧ U = [row0] ∧ Own ar Γ 5 row0 A0 c0 r ∧ True
theorem lN (secret : ByteArray) (hsecret : secret.size ≤ lim) {Ab : Option Addr} {cb : Nat} {b : List UInt8} (hb : Sl ar Γ Ab b) (hbc : b.length ≤ cb) (hp : Pre [] Γ w0) {r : List UInt8} (h : cu secret b = some r) : Calls Tryz.prog 52 #[.string secret, .slice Ab b.length cb] w0 (Outc Γ [] w0 (lx r)) := by
 refine goV [4] func52 ntmps52 results52 hp fun F hF => ?_
 refine WC.rs (aV (k:=WR.done (WC.rs (mV (k:=?_)))))
 obtain ⟨z1, hz2, h⟩ := bnd h
 refine ecV [] (caV call102) (fun w hp => fL secret hsecret hp hz2) ?_
 rintro Γ3 _ _ hl4 ⟨A7, c8, row9, rfl, rfl, hr10, _⟩
 refine cwV 12 [_] (aV (k:=WR.done (WC.rs (aV (k:=WR.done (WC.rs (mV (k:=?_))))))))
 refine mV (k:=?_)
 refine WR.sub (fun w hw => hw.pad) ?_
 obtain ⟨hk11, h⟩ := ah h
 refine jT (T := ar) (xs := []) (ys := z1) bq (i := 0) rfl rfl rfl rfl (by kernel_rfl) rfl rfl (Own.nil ar Γ3 5) (of_decide_eq_true hk11) (fun w hw => d9 (i := 1) rfl hr10 hw) ?_
 intro row12 A13 c14 ho15
 refine aV (k:=WR.done (WC.rs (mV (k:=mV (k:=?_)))))
 obtain ⟨hk16, h⟩ := ah h
 refine apV 0 b bq ho15 (of_decide_eq_true hk16) (fun w hw => jo (hb.mono hl4) hw) ?_
 intro row17 A18 c19 ho20
 refine aV (k:=WR.done (WC.rs (mV (k:=?_))))
 obtain ⟨z21, hz22, h⟩ := bnd h
 refine vqV (caV call98) (fun w hw => dO (Γ := Gh.all w) (ho20.sl hw.sat.le_all (hw.ra 0 rfl)) ho20.capz (Sat.all w) hz22) (k:=aV (k:=WR.done (WC.rs (aV (k:=WR.done (WC.rs (mV (k:=?_))))))))
 refine mV (k:=?_)
 refine WR.sub (fun w hw => hw.pad) ?_
 refine jT (T := ar) (xs := []) (ys := z1) bq (i := 0) rfl rfl rfl rfl (by kernel_rfl) rfl rfl (Own.nil ar Γ3 5) (of_decide_eq_true hk11) (fun w hw => d9 (i := 2) rfl hr10 hw) ?_
 intro row23 A24 c25 ho26
 refine aV (k:=WR.done (WC.rs (mV (k:=mV (k:=sV (nl rfl rfl rfl (by decide)) (k:=sV (cj underlying2 underlying205) (k:=?_)))))))
 obtain ⟨z27, hz28, h⟩ := bnd h
 refine ecV [] (caV call50) (fun w hp => b5 (w64 (wu64 (z21.tdiv 4294967296))) (dL _) hp hz28) ?_
 rintro Γ29 _ _ hl30 ⟨A33, c34, row35, rfl, rfl, hr36, _⟩
 refine cwV 28 [_, _, _, _] ?_
 obtain ⟨hk37, h⟩ := ah h
 refine apV 1 z27 bq (ho26.mono hl30) (of_decide_eq_true hk37) (fun w hw => d9 (i := 0) rfl hr36 hw) ?_
 intro row38 A39 c40 ho41
 refine aV (k:=WR.done (WC.rs (mV (k:=mV (k:=sV (sG rfl rfl rfl (by decide)) (k:=sV (cj underlying2 underlying205) (k:=?_)))))))
 obtain ⟨z42, hz43, h⟩ := bnd h
 refine ecV [] (caV call50) (fun w hp => b5 (w64 (z21.tmod 4294967296)) (dL _) hp hz43) ?_
 rintro Γ44 _ _ hl45 ⟨A48, c49, row50, rfl, rfl, hr51, _⟩
 refine cwV 34 [_, _, _, _, _] ?_
 obtain ⟨hk52, h⟩ := ah h
 refine apV 2 z42 bq (ho41.mono hl45) (of_decide_eq_true hk52) (fun w hw => d9 (i := 0) rfl hr51 hw) ?_
 intro row53 A54 c55 ho56
 refine aV (k:=WR.done (WC.rs (mV (k:=mV (k:=?_)))))
 obtain ⟨hk57, h⟩ := ah h
 refine apV 2 z1 bq ho56 (of_decide_eq_true hk57) (fun w hw => d9 (i := 4) rfl (hr10.mono (hl30.trans hl45)) hw) ?_
 intro row58 A59 c60 ho61
 refine aV (k:=WR.done (WC.rs (mV (k:=?_))))
 obtain ⟨z62, hz63, h⟩ := bnd h
 refine vqV (caV call98) (fun w hw => dO (Γ := Gh.all w) (ho61.sl hw.sat.le_all (hw.ra 2 rfl)) ho61.capz (Sat.all w) hz63) (k:=aV (k:=WR.done (WC.rs (aV (k:=WR.done (WC.seq (WC.rs ?_)))))))
 refine aV (k:=WR.done (WC.block ?_))
 refine WC.forU h (fun (i71 : Nat) (s : Int × (List UInt8)) σ w => match s with | (h_64, m_65) => ∃ (A66 : Option Addr), ∃ (c67 : Nat), ∃ (row68 : Rowb), slots σ [(7, .int .u64 h_64), (9, .slice A66 m_65.length c67), (10, ii (i71 : Int))] ∧ CC F Γ44 [row68] w ∧ Own ar Γ44 5 row68 A66 c67 m_65 ∧ True) ?_ ?_
 ·
  intro w hw
  have hw := hw.pad
  exact ⟨none, 0, [], slK, (hw.on [0]), (Own.nil ar _ 5), trivial⟩
 rintro f70 i71 ⟨h_64, m_65⟩ σ w hi72 hlt73 hge74 ⟨A66, c67, row68, hsl, hw, ho69, -⟩
 refine slV hsl hw [_] ?_; clear hw hsl
 refine WC.seq (WC.rs (mV (k:=sV aI (k:=WR.done ?_))))
 refine coV (fun hb75 => ?_) (fun hb75 => ?_)
 ·
  have hl76 := ilt hb75
  have h := hlt73 hl76
  refine WC.skip (wc_ (WC.seq (WC.block (WC.rs (mV (k:=mV (k:=sV (nl rfl rfl rfl (by decide)) (k:=?_))))))))
  refine sV (cj underlying5 underlying205) (k:=?_)
  refine bsV #[.int .u8 (wu8 (wu64 (h_64.tdiv 72057594037927936)))] 5 fun g77 => ?_
  obtain ⟨hk78, h⟩ := ah h
  refine apV 1 [(b8 (wu8 (wu64 (h_64.tdiv 72057594037927936))))] bq ho69 (of_decide_eq_true hk78) (fun w hw => bw (i := 0) rfl (by exact (by show [Value.int .u8 (wu8 (wu64 (h_64.tdiv 72057594037927936)))] = [Value.int .u8 _]; rw [fS (pp _)])) hw) ?_
  intro row79 A80 c81 ho82
  refine aV (k:=WR.done ?_)
  refine WC.region ?_
  refine mV (k:=sV iQ (k:=aV (k:=?_)))
  refine WR.nil ?_
  change WC _ _ _ _ _ _
  refine WC.region ?_
  refine mV (k:=sV (aK rfl rfl rfl (kD hl76 (by decide))) (k:=aV (k:=?_)))
  refine WR.nil ?_
  intro w hw
  exact ⟨hl76, ((wu64 (h_64 * 256)), (m_65 ++ [(b8 (wu8 (wu64 (h_64.tdiv 72057594037927936))))])), h, A80, c81, row79, slK, (hw.on [1]), ho82, trivial⟩
 have h := hge74 (ige hb75)
 refine WC.exit ?_
 change WC _ _ _ _ _ _
 refine WC.rs (mV (k:=aV (k:=WR.done ?_)))
 exact WC.ret fun w hw => re_ r [0] h hF hw ⟨A66, c67, row68, rfl, rfl, ho69, trivial⟩
abbrev jE (rowb : Rowb) (r : List UInt8) (U : List Rowb) (Γ : Gh) (v : Value) : Prop := ∃ (A0 : Option Addr), ∃ (c0 : Nat), ∃ (row0 : Rowb), v = .slice A0 r.length c0 ∧ U = [rowb, row0] ∧ Own ar Γ 5 row0 A0 c0 r ∧ True
theorem jW (secret : ByteArray) (hsecret : secret.size ≤ lim) {Ab : Option Addr} {cb : Nat} {rowb : Rowb} {b : List UInt8} (hb : Own ar Γ 5 rowb Ab cb b) (hp : Pre [rowb] Γ w0) {r : List UInt8} (h : cu secret b = some r) : Calls Tryz.prog 52 #[.string secret, .slice Ab b.length cb] w0 (Outc Γ [rowb] w0 (jE rowb r)) := by
 refine goV [4] func52 ntmps52 results52 hp fun F hF => ?_
 refine WC.rs (aV (k:=WR.done (WC.rs (mV (k:=?_)))))
 obtain ⟨z1, hz2, h⟩ := bnd h
 refine ecV [] (caV call102) (fun w hp => fL secret hsecret hp hz2) ?_
 rintro Γ3 _ _ hl4 ⟨A7, c8, row9, rfl, rfl, hr10, _⟩
 refine cwV 12 [_, _] (aV (k:=WR.done (WC.rs (aV (k:=WR.done (WC.rs (mV (k:=?_))))))))
 refine mV (k:=?_)
 refine WR.sub (fun w hw => hw.pad) ?_
 obtain ⟨hk11, h⟩ := ah h
 refine jT (T := ar) (xs := []) (ys := z1) bq (i := 0) rfl rfl rfl rfl (by kernel_rfl) rfl rfl (Own.nil ar Γ3 5) (of_decide_eq_true hk11) (fun w hw => d9 (i := 1) rfl hr10 hw) ?_
 intro row12 A13 c14 ho15
 refine aV (k:=WR.done (WC.rs (mV (k:=mV (k:=?_)))))
 obtain ⟨hk16, h⟩ := ah h
 refine apV 0 b bq ho15 (of_decide_eq_true hk16) (fun w hw => d9 (i := 2) rfl (hb.mono hl4) hw) ?_
 intro row17 A18 c19 ho20
 refine aV (k:=WR.done (WC.rs (mV (k:=?_))))
 obtain ⟨z21, hz22, h⟩ := bnd h
 refine vqV (caV call98) (fun w hw => dO (Γ := Gh.all w) (ho20.sl hw.sat.le_all (hw.ra 0 rfl)) ho20.capz (Sat.all w) hz22) (k:=aV (k:=WR.done (WC.rs (aV (k:=WR.done (WC.rs (mV (k:=?_))))))))
 refine mV (k:=?_)
 refine WR.sub (fun w hw => hw.pad) ?_
 refine jT (T := ar) (xs := []) (ys := z1) bq (i := 0) rfl rfl rfl rfl (by kernel_rfl) rfl rfl (Own.nil ar Γ3 5) (of_decide_eq_true hk11) (fun w hw => d9 (i := 2) rfl hr10 hw) ?_
 intro row23 A24 c25 ho26
 refine aV (k:=WR.done (WC.rs (mV (k:=mV (k:=sV (nl rfl rfl rfl (by decide)) (k:=sV (cj underlying2 underlying205) (k:=?_)))))))
 obtain ⟨z27, hz28, h⟩ := bnd h
 refine ecV [] (caV call50) (fun w hp => b5 (w64 (wu64 (z21.tdiv 4294967296))) (dL _) hp hz28) ?_
 rintro Γ29 _ _ hl30 ⟨A33, c34, row35, rfl, rfl, hr36, _⟩
 refine cwV 28 [_, _, _, _, _] ?_
 obtain ⟨hk37, h⟩ := ah h
 refine apV 1 z27 bq (ho26.mono hl30) (of_decide_eq_true hk37) (fun w hw => d9 (i := 0) rfl hr36 hw) ?_
 intro row38 A39 c40 ho41
 refine aV (k:=WR.done (WC.rs (mV (k:=mV (k:=sV (sG rfl rfl rfl (by decide)) (k:=sV (cj underlying2 underlying205) (k:=?_)))))))
 obtain ⟨z42, hz43, h⟩ := bnd h
 refine ecV [] (caV call50) (fun w hp => b5 (w64 (z21.tmod 4294967296)) (dL _) hp hz43) ?_
 rintro Γ44 _ _ hl45 ⟨A48, c49, row50, rfl, rfl, hr51, _⟩
 refine cwV 34 [_, _, _, _, _, _] ?_
 obtain ⟨hk52, h⟩ := ah h
 refine apV 2 z42 bq (ho41.mono hl45) (of_decide_eq_true hk52) (fun w hw => d9 (i := 0) rfl hr51 hw) ?_
 intro row53 A54 c55 ho56
 refine aV (k:=WR.done (WC.rs (mV (k:=mV (k:=?_)))))
 obtain ⟨hk57, h⟩ := ah h
 refine apV 2 z1 bq ho56 (of_decide_eq_true hk57) (fun w hw => d9 (i := 4) rfl (hr10.mono (hl30.trans hl45)) hw) ?_
 intro row58 A59 c60 ho61
 refine aV (k:=WR.done (WC.rs (mV (k:=?_))))
 obtain ⟨z62, hz63, h⟩ := bnd h
 refine vqV (caV call98) (fun w hw => dO (Γ := Gh.all w) (ho61.sl hw.sat.le_all (hw.ra 2 rfl)) ho61.capz (Sat.all w) hz63) (k:=aV (k:=WR.done (WC.rs (aV (k:=WR.done (WC.seq (WC.rs ?_)))))))
 refine aV (k:=WR.done (WC.block ?_))
 refine WC.forU h (fun (i71 : Nat) (s : Int × (List UInt8)) σ w => match s with | (h_64, m_65) => ∃ (A66 : Option Addr), ∃ (c67 : Nat), ∃ (row68 : Rowb), slots σ [(7, .int .u64 h_64), (9, .slice A66 m_65.length c67), (10, ii (i71 : Int))] ∧ CC F Γ44 [row68, rowb] w ∧ Own ar Γ44 5 row68 A66 c67 m_65 ∧ True) ?_ ?_
 ·
  intro w hw
  have hw := hw.pad
  exact ⟨none, 0, [], slK, (hw.on [0, 5]), (Own.nil ar _ 5), trivial⟩
 rintro f70 i71 ⟨h_64, m_65⟩ σ w hi72 hlt73 hge74 ⟨A66, c67, row68, hsl, hw, ho69, -⟩
 refine slV hsl hw [_, _] ?_; clear hw hsl
 refine WC.seq (WC.rs (mV (k:=sV aI (k:=WR.done ?_))))
 refine coV (fun hb75 => ?_) (fun hb75 => ?_)
 ·
  have hl76 := ilt hb75
  have h := hlt73 hl76
  refine WC.skip (wc_ (WC.seq (WC.block (WC.rs (mV (k:=mV (k:=sV (nl rfl rfl rfl (by decide)) (k:=?_))))))))
  refine sV (cj underlying5 underlying205) (k:=?_)
  refine bsV #[.int .u8 (wu8 (wu64 (h_64.tdiv 72057594037927936)))] 5 fun g77 => ?_
  obtain ⟨hk78, h⟩ := ah h
  refine apV 1 [(b8 (wu8 (wu64 (h_64.tdiv 72057594037927936))))] bq ho69 (of_decide_eq_true hk78) (fun w hw => bw (i := 0) rfl (by exact (by show [Value.int .u8 (wu8 (wu64 (h_64.tdiv 72057594037927936)))] = [Value.int .u8 _]; rw [fS (pp _)])) hw) ?_
  intro row79 A80 c81 ho82
  refine aV (k:=WR.done ?_)
  refine WC.region ?_
  refine mV (k:=sV iQ (k:=aV (k:=?_)))
  refine WR.nil ?_
  change WC _ _ _ _ _ _
  refine WC.region ?_
  refine mV (k:=sV (aK rfl rfl rfl (kD hl76 (by decide))) (k:=aV (k:=?_)))
  refine WR.nil ?_
  intro w hw
  exact ⟨hl76, ((wu64 (h_64 * 256)), (m_65 ++ [(b8 (wu8 (wu64 (h_64.tdiv 72057594037927936))))])), h, A80, c81, row79, slK, (hw.on [1, 1]), ho82, trivial⟩
 have h := hge74 (ige hb75)
 refine WC.exit ?_
 change WC _ _ _ _ _ _
 refine WC.rs (mV (k:=aV (k:=WR.done ?_)))
 exact WC.ret fun w hw => re_ r [1, 0] h hF hw ⟨A66, c67, row68, rfl, rfl, ho69, trivial⟩
abbrev mq (r : (List UInt8) × Int) (U : List Rowb) (Γ : Gh) (v : Value) : Prop := ∃ (A0 : Option Addr), ∃ (c0 : Nat), ∃ (row0 : Rowb), v = .tuple #[.slice A0 r.1.length c0, .int .i64 r.2] ∧ U = [row0] ∧ Own ar Γ 5 row0 A0 c0 r.1 ∧ I64 r.2 ∧ True
theorem lR (secret : ByteArray) (hsecret : secret.size ≤ lim) (group : Int) (hgroup : I64 group) {Al : Option Addr} {cl : Nat} {l : List Span} (hl : Sl aW Γ Al l) (hlc : l.length ≤ cl) (hp : Pre [] Γ w0) {r : (List UInt8) × Int} (h : dI secret group l = some r) : Calls Tryz.prog 19 #[.string secret, ii group, .slice Al l.length cl] w0 (Outc Γ [] w0 (mq r)) := by
 refine goV [6, 7] func19 ntmps19 results19 hp fun F hF => ?_
 refine WC.rs (aV (k:=aV (k:=WR.done (WC.seq (WC.rs (mV (k:=mV (k:=?_))))))))
 obtain ⟨z1, hz2, h⟩ := bnd h
 refine vqV (caV call48) (fun w hw => iY (Γ := Gh.all w) secret hsecret group hgroup (Sat.all w) hz2) (k:=sV dJ (k:=mV (k:=vG0 (h:=fun hg3 => moV) (k:=?_))))
 obtain ⟨z5, hz6, h⟩ := bnd h
 refine vC0 (h:=fun hg4 => dU (ew call49 rfl rfl (nh (grV hg4))) (fun w hw => gT (Γ := Gh.all w) (hl.mono hw.sat.le_all) hlc (Sat.all w) (nv hz6 hg4))) (k:=vG0 (h:=fun hg7 => dJ rfl (grV hg7)) (k:=sV pkO (k:=WR.done ?_)))
 refine ciV h (fun hb8 h => ?_) (fun hb8 h => ?_)
 ·
  refine WC.rs (aV (k:=aV (k:=WR.done ?_)))
  refine WC.ret ?_
  intro w hw
  have hw := hw.pad
  exact re_ r [0] h hF hw ⟨none, 0, [], rfl, rfl, (Own.nil ar _ 5), iV, trivial⟩
 refine WC.skip (wc_ (WC.rs ?_))
 obtain ⟨z9, hz10, h⟩ := bnd h
 refine ecV [] (caV call50) (fun w hp => b5 1 iV hp hz10) ?_
 rintro Γ11 _ _ hl12 ⟨A15, c16, row17, rfl, rfl, hr18, _⟩
 refine cwV 19 [_] (aV (k:=WR.done (WC.rs (mV (k:=mV (k:=?_))))))
 obtain ⟨z19, hz20, h⟩ := bnd h
 refine ecV [] (caV call50) (fun w hp => b5 group hgroup hp hz20) ?_
 rintro Γ21 _ _ hl22 ⟨A25, c26, row27, rfl, rfl, hr28, _⟩
 refine cwV 22 [_, _] ?_
 obtain ⟨hk29, h⟩ := ah h
 refine apV 1 z19 bq (hr18.mono hl22) (of_decide_eq_true hk29) (fun w hw => d9 (i := 0) rfl hr28 hw) ?_
 intro row30 A31 c32 ho33
 refine aV (k:=WR.done (WC.rs (mV (k:=mV (k:=?_)))))
 obtain ⟨z34, hz35, h⟩ := bnd h
 refine ecV [] (caV call51) (fun w hp => kK (hl.mono (hl12.trans hl22)) hlc hp hz35) ?_
 rintro Γ36 _ _ hl37 ⟨A40, c41, row42, rfl, rfl, hr43, _⟩
 refine cwV 26 [_, _, _] ?_
 obtain ⟨hk44, h⟩ := ah h
 refine apV 2 z34 bq (ho33.mono hl37) (of_decide_eq_true hk44) (fun w hw => d9 (i := 0) rfl hr43 hw) ?_
 intro row45 A46 c47 ho48
 refine aV (k:=WR.done (WC.rs (mV (k:=mV (k:=?_)))))
 obtain ⟨z49, hz50, h⟩ := bnd h
 refine ecV [2] (caV call52) (fun w hp => jW secret hsecret ho48 hp hz50) ?_
 rintro Γ51 _ _ hl52 ⟨A55, c56, row57, rfl, rfl, hr58, _⟩
 refine cwV 30 [_, _, _, _] (aV (k:=WR.done (WC.rs (mV (k:=mV (k:=?_))))))
 obtain ⟨hk59, h⟩ := ah h
 refine apV 0 z49 bq (ho48.mono hl52) (of_decide_eq_true hk59) (fun w hw => d9 (i := 1) rfl hr58 hw) ?_
 intro row60 A61 c62 ho63
 refine aV (k:=aV (k:=WR.done ?_))
 exact WC.ret fun w hw => re_ r [0] h hF hw ⟨A61, c62, row60, rfl, rfl, ho63, iV, trivial⟩
theorem fu {Ab : Option Addr} {cb : Nat} {b : List UInt8} (hb : Sl ar Γ Ab b) (hbc : b.length ≤ cb) (at_ : Int) (hat_ : I64 at_) (hs : Sat Γ w0) {r : Int × Int × Int} (h : bD b at_ = some r) : CQ Tryz.prog 53 #[.slice Ab b.length cb, ii at_] w0 (.tuple #[ii r.1, ii r.2.1, ii r.2.2]) := by
 refine goQ [4, 5, 6] func53 ntmps53 results53 hs fun F hF => ?_
 refine WC.rs (aV (k:=aV (k:=aV (k:=WR.done (WC.rs (aV (k:=WR.done ?_)))))))
 refine WC.rs (aV (k:=WR.done (WC.seq (WC.rs (aV (k:=WR.done (WC.block ?_)))))))
 refine WC.loopN h (fun (s : Int × Int × Int × Int) σ w => match s with | (at_1, n_3, one_5, i_7) => slots σ [(0, .slice Ab b.length cb), (1, ii at_1), (7, ii n_3), (8, ii one_5), (9, ii i_7)] ∧ CC F Γ [] w ∧ I64 at_1 ∧ I64 n_3 ∧ I64 one_5 ∧ I64 i_7 ∧ True) ?_ ?_
 ·
  intro w hw
  exact ⟨slK, hw, hat_, iV, iV, iV, trivial⟩
 rintro f9 ⟨at_1, n_3, one_5, i_7⟩ σ w h ⟨hsl, hw, hr2, hr4, hr6, hr8, -⟩
 refine slV hsl hw [] ?_; clear hw hsl
 refine WC.seq (WC.rs (mV (k:=mV (k:=sV (ai rfl underlying61) (k:=sV aI (k:=WR.done ?_))))))
 refine ciV h (fun hb13 h => ?_) (fun hb13 h => ?_)
 ·
  refine WC.skip (wc_ (WC.seq (WC.block (WC.rs (mV (k:=mV (k:=?_)))))))
  obtain ⟨hk14, h⟩ := ah h
  refine sV (q_ix underlying61 sizeOf5 rfl rfl rfl hk14 (hb.some_ (cw hk14))) (k:=sV (q_ld (c := 0) (v := .int .u8 (((gt b at_1.toNat).toNat : Nat) : Int)) (hb.byteT_at (cw hk14)).2 rfl isAgg5 rfl rfl) (k:=sV (cj underlying2 underlying5) (k:=aV (k:=WR.done (WC.rs (mV (k:=sV cK (k:=?_))))))))
  refine aV (k:=WR.done (WC.seq (WC.rs (mV (k:=sV dl (k:=mV (k:=vG1 (h:=fun hg15 => moV) (k:=?_))))))))
  refine vG1 (h:=fun hg16 => bJ rfl (grV hg16)) (k:=sV pkA (k:=mV (k:=vG0 (h:=fun hg17 => moV) (k:=vG0 (h:=fun hg18 => bJ rfl (grV hg18)) (k:=vG0 (h:=fun hg19 => cI (v := .bool (decide (0 < i_7))) rfl (grV hg19)) (k:=vh1 (c0 := (!((i_7 == 8) && (decide (127 < (w64 (((gt b at_1.toNat).toNat : Nat) : Int))))))) (g := (decide (0 < i_7))) rfl rfl rfl rfl rfl (fun _ => QV.qo moV) (vh1 (c0 := (!((i_7 == 8) && (decide (127 < (w64 (((gt b at_1.toNat).toNat : Nat) : Int))))))) (g := (decide (0 < i_7))) rfl rfl rfl rfl rfl (fun hg21 => QV.qo (dl rfl (grV hg21))) ?_)))))))
  refine vG0 (h:=fun hg22 => fU rfl (grV hg22) (mJ (c := (!((i_7 == 8) && (decide (127 < (w64 (((gt b at_1.toNat).toNat : Nat) : Int))))))) (g := (decide (0 < i_7))) (y := ((w64 (((gt b at_1.toNat).toNat : Nat) : Int)) == 0)) hg22)) (k:=sV pkO (k:=WR.done ?_))
  refine ciV h (fun hb23 h => ?_) (fun hb23 h => ?_)
  ·
   refine WC.rs (aV (k:=aV (k:=aV (k:=WR.done ?_))))
   exact WC.ret fun w hw => by obtain rfl := Option.some.inj h; exact ⟨by kernel_rfl, fr_ hF hw⟩
  refine WC.skip (wc_ (WC.rs (mV (k:=mV (k:=sV (sG rfl rfl rfl (by decide)) (k:=mV (k:=sV iQ (k:=?_))))))))
  refine sV cK (k:=aV (k:=WR.done (WC.seq (WC.rs (mV (k:=sV aI (k:=WR.done ?_)))))))
  refine ciV h (fun hb24 h => ?_) (fun hb24 h => ?_)
  ·
   refine WC.rs (mV (k:=mV (k:=aV (k:=aV (k:=aV (k:=WR.done ?_))))))
   exact WC.ret fun w hw => by obtain rfl := Option.some.inj h; exact ⟨by kernel_rfl, fr_ hF hw⟩
  refine WC.skip (wc_ ?_)
  refine WC.region ?_
  refine mV (k:=sV iQ (k:=aV (k:=?_)))
  refine WR.nil ?_
  change WC _ _ _ _ _ _
  refine WC.region ?_
  refine mV (k:=sV cK (k:=aV (k:=?_)))
  refine WR.nil ?_
  intro w hw
  exact ⟨((w64 (at_1 + 1)), (w64 (n_3 + (w64 (((w64 (((gt b at_1.toNat).toNat : Nat) : Int)).tmod 128) * one_5)))), (w64 (one_5 * 128)), (w64 (i_7 + 1))), h, slK, hw, (dL _), (dL _), (dL _), (dL _), trivial⟩
 refine WC.exit ?_
 change WC _ _ _ _ _ _
 refine WC.rs (aV (k:=aV (k:=aV (k:=WR.done ?_))))
 exact WC.ret fun w hw => by obtain rfl := Option.some.inj h; exact ⟨by kernel_rfl, fr_ hF hw⟩
abbrev jx (gr_ : Nat) (er_ : Nat) (r : af × Int) (U : List Rowb) (Γ : Gh) (v : Value) : Prop := ∃ (rowr_' : Rowb), v = .int .i64 r.2 ∧ U = [rowr_'] ∧ af.ob er_ Γ gr_ rowr_' r.1 ∧ I64 r.2 ∧ True
theorem cM {gr_ er_ : Nat} {rowr_ : Rowb} {r_ : af} (hr_ : af.ob er_ Γ gr_ rowr_ r_) (hp : Pre [rowr_] Γ w0) {r : af × Int} (h : aL r_ = some r) : Calls Tryz.prog 209 #[(pq gr_)] w0 (Outc Γ [rowr_] w0 (jx gr_ er_ r)) := by
 refine goV [2] func209 ntmps209 results209 hp fun F hF => ?_
 refine WC.rs (aV (k:=WR.done (WC.seq (WC.rs (mV (k:=sV nlV (k:=sV (q_fl 2 gB) (k:=?_))))))))
 obtain ⟨A0_1, c0_1, hrow_1, ho0_1, ho1_1, ho2_1, -⟩ := id hr_
 refine ufR 0 hrow_1 [_] ?_
 refine sV (ldV 0 isAgg4) (k:=WR.done ?_)
 refine ciV h (fun hb2 h => ?_) (fun hb2 h => ?_)
 ·
  refine WC.rs (aV (k:=WR.done ?_))
  refine WC.ret ?_
  intro w hw
  have hw := hw.fold (is := [0]) rfl hrow_1
  exact re_ r [0] h hF hw ⟨rowr_, rfl, rfl, hr_, iV, trivial⟩
 refine WC.skip (wc_ (WC.seq ?_))
 refine drV ?_
 refine zV moV (k:=zV nlV (k:=zV (q_fl 0 pL) (k:=zV (ldV 0 isAgg61) (k:=zV moV (k:=zV nlV (k:=zV (q_fl 1 kx) (k:=zV (ldV 0 isAgg3) (k:=?_))))))))
 obtain ⟨z4, hz5, h⟩ := bnd h
 refine wc rfl rfl rfl (dU (caV call53) (fun w hw => fu (Γ := Gh.all w) (ho1_1.mono hw.sat.le_all) ho0_1 r_.at_ ho2_1 (Sat.all w) hz5)) (zV moV (k:=zV exV (k:=zV exV (k:=zV exV (k:=zV aoV (k:=zV aoV (k:=zV aoV (k:=?_))))))))
 refine WQ.nil ?_
 change WC _ _ _ _ _ _
 refine WC.seq (WC.rs (mV (k:=sV ci (k:=WR.done ?_))))
 refine ciV h (fun hb6 h => ?_) (fun hb6 h => ?_)
 ·
  refine WC.rs (mV (k:=sV nlV (k:=sV (q_fl 2 gB) (k:=stV 0 (.bool true) #[.slice A0_1 r_.b.length c0_1, ii r_.at_, .bool true] sizeOf4 (k:=WR.done (WC.rs (aV (k:=?_))))))))
  refine WR.done ?_
  refine WC.ret ?_
  intro w hw
  obtain ⟨row_7, hrow_7, hob_7⟩ : ∃ rw : Rowb, rw = ([[(gr_, .cells #[.slice A0_1 r_.b.length c0_1, ii r_.at_, .bool true] er_ (0, 0))]] : List Rowb).flatten ∧ af.ob er_ Γ gr_ rw (⟨r_.b, r_.at_, true⟩ : af) := ⟨_, rfl, A0_1, c0_1, rfl, ho0_1, ho1_1, ho2_1, trivial⟩
  have hw := hw.fold (is := [0]) rfl hrow_7
  obtain rfl := Option.some.inj h
  subst hF
  exact bO (is := [0]) (by kernel_rfl) hw rfl ⟨row_7, rfl, rfl, hob_7, iV, trivial⟩
 refine WC.skip (wc_ (WC.rs (mV (k:=mV (k:=sV nlV (k:=sV (q_fl 1 kx) (k:=stV 0 (ii z4.2.1) #[.slice A0_1 r_.b.length c0_1, ii z4.2.1, .bool r_.bad] sizeOf3 (k:=?_))))))))
 refine WR.done (WC.rs (mV (k:=aV (k:=WR.done ?_))))
 refine WC.ret ?_
 intro w hw
 obtain ⟨hk9, h⟩ := ah h
 obtain ⟨row_8, hrow_8, hob_8⟩ : ∃ rw : Rowb, rw = ([[(gr_, .cells #[.slice A0_1 r_.b.length c0_1, ii z4.2.1, .bool r_.bad] er_ (0, 0))]] : List Rowb).flatten ∧ af.ob er_ Γ gr_ rw (⟨r_.b, z4.2.1, r_.bad⟩ : af) := ⟨_, rfl, A0_1, c0_1, rfl, ho0_1, ho1_1, (dP hk9), trivial⟩
 have hw := hw.fold (is := [0]) rfl hrow_8
 obtain ⟨hk10, h⟩ := ah h
 obtain rfl := Option.some.inj h
 subst hF
 exact bO (is := [0]) (by kernel_rfl) hw rfl ⟨row_8, rfl, rfl, hob_8, (dP hk10), trivial⟩
abbrev iW (gr_ : Nat) (er_ : Nat) (r : af × Int) (U : List Rowb) (Γ : Gh) (v : Value) : Prop := ∃ (rowr_' : Rowb), v = .int .i64 r.2 ∧ U = [rowr_'] ∧ af.ob er_ Γ gr_ rowr_' r.1 ∧ I64 r.2 ∧ True
theorem iN {gr_ er_ : Nat} {rowr_ : Rowb} {r_ : af} (hr_ : af.ob er_ Γ gr_ rowr_ r_) (hp : Pre [rowr_] Γ w0) {r : af × Int} (h : ba r_ = some r) : Calls Tryz.prog 208 #[(pq gr_)] w0 (Outc Γ [rowr_] w0 (iW gr_ er_ r)) := by
 refine goV [2] func208 ntmps208 results208 hp fun F hF => ?_
 refine WC.rs (aV (k:=WR.done (WC.rs (mV (k:=?_)))))
 obtain ⟨z1, hz2, h⟩ := bnd h
 refine ecV [0] (caV call209) (fun w hp => cM hr_ hp hz2) ?_
 rintro Γ3 _ _ hl4 ⟨row7, rfl, rfl, hr8, hr9, _⟩
 refine cwV 5 [_] (aV (k:=WR.done (WC.seq (WC.seq ?_))))
 obtain ⟨A0_10, c0_10, hrow_10, ho0_10, ho1_10, ho2_10, -⟩ := id hr8
 refine ufC 0 hrow_10 [_] ?_
 refine drV ?_
 refine zV moV (k:=zV moV (k:=zV nlV (k:=zV (q_fl 0 pL) (k:=zV (ldV 0 isAgg61) (k:=zV (ai rfl underlying61) (k:=zV moV (k:=zV nlV (k:=?_))))))))
 refine zV (q_fl 1 kx) (k:=zV (ldV 0 isAgg3) (k:=zV eI (k:=zV bJ (k:=?_))))
 refine WQ.nil ?_
 change WC _ _ _ _ _ _
 refine ciV h (fun hb11 h => ?_) (fun hb11 h => ?_)
 ·
  refine WC.rs (mV (k:=sV nlV (k:=sV (q_fl 2 gB) (k:=stV 0 (.bool true) #[.slice A0_10 z1.1.b.length c0_10, ii z1.1.at_, .bool true] sizeOf4 (k:=WR.done (WC.rs (aV (k:=?_))))))))
  refine WR.done ?_
  refine WC.ret ?_
  intro w hw
  obtain ⟨row_12, hrow_12, hob_12⟩ : ∃ rw : Rowb, rw = ([[(gr_, .cells #[.slice A0_10 z1.1.b.length c0_10, ii z1.1.at_, .bool true] er_ (0, 0))]] : List Rowb).flatten ∧ af.ob er_ Γ3 gr_ rw (⟨z1.1.b, z1.1.at_, true⟩ : af) := ⟨_, rfl, A0_10, c0_10, rfl, ho0_10, ho1_10, ho2_10, trivial⟩
  have hw := hw.fold (is := [0]) rfl hrow_12
  obtain rfl := Option.some.inj h
  subst hF
  exact bO (is := [0]) (by kernel_rfl) hw rfl ⟨row_12, rfl, rfl, hob_12, iV, trivial⟩
 refine WC.skip (wc_ (WC.rs (mV (k:=aV (k:=WR.done ?_)))))
 refine WC.ret ?_
 intro w hw
 have hw := hw.fold (is := [0]) rfl hrow_10
 exact re_ r [0] h hF hw ⟨row7, rfl, rfl, hr8, hr9, trivial⟩
abbrev iZ (gr_ : Nat) (er_ : Nat) (r : af × (List Span)) (U : List Rowb) (Γ : Gh) (v : Value) : Prop := ∃ (rowr_' : Rowb), ∃ (A0 : Option Addr), ∃ (c0 : Nat), ∃ (row0 : Rowb), v = .slice A0 r.2.length c0 ∧ U = [rowr_', row0] ∧ af.ob er_ Γ gr_ rowr_' r.1 ∧ Own aW Γ 131 row0 A0 c0 r.2 ∧ True
theorem iJ {gr_ er_ : Nat} {rowr_ : Rowb} {r_ : af} (hr_ : af.ob er_ Γ gr_ rowr_ r_) (hp : Pre [rowr_] Γ w0) {r : af × (List Span)} (h : bc r_ = some r) : Calls Tryz.prog 103 #[(pq gr_)] w0 (Outc Γ [rowr_] w0 (iZ gr_ er_ r)) := by
 refine goV [2] func103 ntmps103 results103 hp fun F hF => ?_
 refine WC.rs (aV (k:=WR.done (WC.rs (aV (k:=WR.done (WC.rs (mV (k:=?_))))))))
 obtain ⟨z1, hz2, h⟩ := bnd h
 refine ecV [0] (caV call208) (fun w hp => iN hr_ hp hz2) ?_
 rintro Γ3 _ _ hl4 ⟨row7, rfl, rfl, hr8, hr9, _⟩
 refine cwV 10 [_] (aV (k:=WR.done (WC.seq (WC.rs (aV (k:=WR.done (WC.block ?_)))))))
 refine WC.loopN h (fun (s : (List Span) × Int × af) σ w => match s with | (out_12, i_17, o19) => ∃ (Γ10 : Gh), ∃ (A13 : Option Addr), ∃ (c14 : Nat), ∃ (row15 : Rowb), ∃ (row20 : Rowb), slots σ [(0, (pq gr_)), (3, .slice A13 out_12.length c14), (4, ii z1.2), (5, ii i_17)] ∧ CC F Γ10 [row15, row20] w ∧ Gh.le Γ3 Γ10 ∧ Own aW Γ10 131 row15 A13 c14 out_12 ∧ I64 i_17 ∧ af.ob er_ Γ10 gr_ row20 o19 ∧ True) ?_ ?_
 ·
  intro w hw
  have hw := hw.pad
  exact ⟨Γ3, none, 0, [], row7, slK, hw, gR, (Own.nil aW _ 131), iV, hr8, trivial⟩
 rintro f22 ⟨out_12, i_17, o19⟩ σ w h ⟨Γ10, A13, c14, row15, row20, hsl, hw, hl11, ho16, hr18, ho21, -⟩
 refine slV hsl hw [_, _] ?_; clear hw hsl
 refine WC.seq (WC.rs (mV (k:=mV (k:=sV aI (k:=mV (k:=vG1 (h:=fun hg26 => moV) (k:=vG1 (h:=fun hg27 => nlV (hv:=grV hg27)) (k:=?_))))))))
 refine vG1 (h:=fun hg28 => q_fl 2 gB rfl (grV hg28)) (k:=?_)
 obtain ⟨A0_30, c0_30, hrow_30, ho0_30, ho1_30, ho2_30, -⟩ := id ho21
 refine ufR 1 hrow_30 [_, _] ?_
 refine vG1 (h:=fun hg31 => ldV 0 isAgg4 (hx:=grV hg31)) (k:=vG1 (h:=fun hg32 => dJ rfl (grV hg32)) (k:=sV pkA (k:=WR.done ?_)))
 refine ciV h (fun hb33 h => ?_) (fun hb33 h => ?_)
 ·
  refine WC.skip (wc_ (WC.seq (WC.block (WC.rs (mV (k:=?_))))))
  refine foR [0] hrow_30 [_, _] ?_
  obtain ⟨z35, hz36, h⟩ := bnd h
  refine ecV [0] (caV call209) (fun w hp => cM ho21 hp hz36) ?_
  rintro Γ37 _ _ hl38 ⟨row41, rfl, rfl, hr42, hr43, _⟩
  refine cwV 24 [_, _] (aV (k:=WR.done (WC.rs (mV (k:=?_)))))
  obtain ⟨z44, hz45, h⟩ := bnd h
  refine ecV [0] (caV call209) (fun w hp => cM hr42 hp hz45) ?_
  rintro Γ46 _ _ hl47 ⟨row50, rfl, rfl, hr51, hr52, _⟩
  refine cwV 26 [_, _] (aV (k:=WR.done (WC.rs (mV (k:=?_)))))
  obtain ⟨z53, hz54, h⟩ := bnd h
  refine ecV [0] (caV call209) (fun w hp => cM hr51 hp hz54) ?_
  rintro Γ55 _ _ hl56 ⟨row59, rfl, rfl, hr60, hr61, _⟩
  refine cwV 28 [_, _] (aV (k:=WR.done (WC.seq (WC.rs (mV (k:=sV bJ (k:=mV (k:=?_))))))))
  refine vG0 (h:=fun hg62 => moV) (k:=vG0 (h:=fun hg63 => bJ rfl (grV hg63)) (k:=sV pkO (k:=WR.done ?_)))
  refine ciV h (fun hb64 h => ?_) (fun hb64 h => ?_)
  ·
   refine WC.rs (mV (k:=sV nlV (k:=sV (q_fl 2 gB) (k:=?_))))
   obtain ⟨A0_65, c0_65, hrow_65, ho0_65, ho1_65, ho2_65, -⟩ := id hr60
   refine ufR 0 hrow_65 [_, _] ?_
   refine stV 0 (.bool true) #[.slice A0_65 z53.1.b.length c0_65, ii z53.1.at_, .bool true] sizeOf4 (k:=WR.done (WC.rs (aV (k:=WR.done ?_))))
   refine WC.ret ?_
   intro w hw
   obtain ⟨row_66, hrow_66, hob_66⟩ : ∃ rw : Rowb, rw = ([[(gr_, .cells #[.slice A0_65 z53.1.b.length c0_65, ii z53.1.at_, .bool true] er_ (0, 0))]] : List Rowb).flatten ∧ af.ob er_ Γ55 gr_ rw (⟨z53.1.b, z53.1.at_, true⟩ : af) := ⟨_, rfl, A0_65, c0_65, rfl, ho0_65, ho1_65, ho2_65, trivial⟩
   have hw := hw.fold (is := [0]) rfl hrow_66
   have hw := hw.pad
   obtain rfl := Option.some.inj h
   subst hF
   exact bO (is := [1, 0]) (by kernel_rfl) hw rfl ⟨row_66, none, 0, [], rfl, rfl, hob_66, (Own.nil aW _ 131), trivial⟩
  refine WC.skip (wc_ ?_)
  refine WC.region ?_
  refine mV (k:=mV (k:=mV (k:=mV (k:=mV (k:=sV cK (k:=sV (bh (v := .agg #[ii z35.2, ii z44.2, ii (w64 (z44.2 + z53.2))]) rfl (wT rfl rfl rfl) (fun w => by kernel_rfl)) (k:=?_)))))))
  refine bsV #[ii z35.2, ii z44.2, ii (w64 (z44.2 + z53.2))] 131 fun g67 => ?_
  obtain ⟨hk68, h⟩ := ah h
  refine apV 2 [(⟨z35.2, z44.2, (w64 (z44.2 + z53.2))⟩ : Span)] uz (ho16.mono ((hl38.trans hl47).trans hl56)) (of_decide_eq_true hk68) (fun w hw => bw (i := 0) rfl (by exact ⟨rfl, ⟨hr43, hr52, (dL _)⟩⟩) hw) ?_
  intro row69 A70 c71 ho72
  refine aV (k:=?_)
  refine WR.nil ?_
  change WC _ _ _ _ _ _
  refine WC.region ?_
  refine mV (k:=sV cK (k:=aV (k:=?_)))
  refine WR.nil ?_
  intro w hw
  exact ⟨((out_12 ++ [(⟨z35.2, z44.2, (w64 (z44.2 + z53.2))⟩ : Span)]), (w64 (i_17 + 1)), z53.1), h, Γ55, A70, c71, row69, row59, slK, (hw.on [2, 1]), (((hl11.trans hl38).trans hl47).trans hl56), ho72, (dL _), hr60, trivial⟩
 refine WC.exit ?_
 change WC _ _ _ _ _ _
 refine WC.rs (mV (k:=aV (k:=WR.done ?_)))
 refine WC.ret ?_
 intro w hw
 have hw := hw.fold (is := [0]) rfl hrow_30
 exact re_ r [0, 0] h hF hw ⟨row20, A13, c14, row15, rfl, rfl, ho21, ho16, trivial⟩
abbrev mY (r : (List Span) × Int) (U : List Rowb) (Γ : Gh) (v : Value) : Prop := ∃ (A0 : Option Addr), ∃ (c0 : Nat), ∃ (row0 : Rowb), v = .tuple #[.slice A0 r.1.length c0, .int .i64 r.2] ∧ U = [row0] ∧ Own aW Γ 131 row0 A0 c0 r.1 ∧ I64 r.2 ∧ True
theorem mz {Ab : Option Addr} {cb : Nat} {b : List UInt8} (hb : Sl ar Γ Ab b) (hbc : b.length ≤ cb) (hp : Pre [] Γ w0) {r : (List Span) × Int} (h : bG b = some r) : Calls Tryz.prog 54 #[.slice Ab b.length cb] w0 (Outc Γ [] w0 (mY r)) := by
 refine goV [2, 3] func54 ntmps54 results54 hp fun F hF => ?_
 refine WC.rs (aV (k:=aV (k:=WR.done (WC.rs (mV (k:=sV (bh (v := .agg #[.slice Ab b.length cb, ii 0, .bool false]) rfl (mR rfl) (fun w => by kernel_rfl)) (k:=?_)))))))
 refine bxV (v := .agg #[.slice Ab b.length cb, ii 0, .bool false]) fun g1 => ?_
 refine aV (k:=WR.done (WC.rs (mV (k:=?_))))
 obtain ⟨row_2, hrow_2, hob_2⟩ : ∃ rw : Rowb, rw = ([[(g1, .cells #[.slice Ab b.length cb, ii 0, .bool false] 213 (0, 0))]] : List Rowb).flatten ∧ af.ob 213 Γ g1 rw (⟨b, 0, false⟩ : af) := ⟨_, rfl, Ab, cb, rfl, hbc, hb, iV, trivial⟩
 refine foR [0] hrow_2 [_] ?_
 obtain ⟨z3, hz4, h⟩ := bnd h
 refine ecV [0] (caV call103) (fun w hp => iJ hob_2 hp hz4) ?_
 rintro Γ5 _ _ hl6 ⟨row9, A11, c12, row13, rfl, rfl, hr10, hr14, _⟩
 refine cwV 10 [_, _] (aV (k:=WR.done (WC.seq (WC.rs (mV (k:=sV nlV (k:=sV (q_fl 2 gB) (k:=?_))))))))
 obtain ⟨A0_15, c0_15, hrow_15, ho0_15, ho1_15, ho2_15, -⟩ := id hr10
 refine ufR 0 hrow_15 [_, _] ?_
 refine sV (ldV 0 isAgg4) (k:=mV (k:=vG0 (h:=fun hg16 => moV) (k:=vG0 (h:=fun hg17 => nlV (hv:=grV hg17)) (k:=vG0 (h:=fun hg18 => q_fl 1 kx rfl (grV hg18)) (k:=vG0 (h:=fun hg19 => ldV 0 isAgg3 (hx:=grV hg19)) (k:=vG0 (h:=fun hg20 => moV) (k:=vG0 (h:=fun hg21 => ai rfl underlying61 (grV hg21)) (k:=?_))))))))
 refine vG0 (h:=fun hg22 => ci rfl (grV hg22) (grV hg22)) (k:=sV pkO (k:=mV (k:=vG0 (h:=fun hg23 => moV) (k:=?_))))
 obtain ⟨z25, hz26, h⟩ := bnd h
 refine vC0 (h:=fun hg24 => dU (ew call49 rfl rfl (nh (grV hg24))) (fun w hw => gT (Γ := Gh.all w) (hr14.sl hw.sat.le_all (hw.ra 1 rfl)) hr14.capz (Sat.all w) (nv hz26 hg24))) (k:=vG0 (h:=fun hg27 => dJ rfl (grV hg27)) (k:=sV pkO (k:=WR.done ?_)))
 refine ciV h (fun hb28 h => ?_) (fun hb28 h => ?_)
 ·
  refine WC.rs (aV (k:=aV (k:=WR.done ?_)))
  refine WC.ret ?_
  intro w hw
  have hw := hw.pad
  exact re_ r [0] h hF hw ⟨none, 0, [], rfl, rfl, (Own.nil aW _ 131), iV, trivial⟩
 refine WC.skip (wc_ (WC.rs (mV (k:=aV (k:=aV (k:=WR.done ?_))))))
 exact WC.ret fun w hw => re_ r [1] h hF hw ⟨A11, c12, row13, rfl, rfl, hr14, iV, trivial⟩
abbrev lZ (r : (List Span) × Int) (U : List Rowb) (Γ : Gh) (v : Value) : Prop := ∃ (A0 : Option Addr), ∃ (c0 : Nat), ∃ (row0 : Rowb), v = .tuple #[.slice A0 r.1.length c0, .int .i64 r.2] ∧ U = [row0] ∧ Own aW Γ 131 row0 A0 c0 r.1 ∧ I64 r.2 ∧ True
theorem lE (secret : ByteArray) (hsecret : secret.size ≤ lim) (group : Int) (hgroup : I64 group) {Ab : Option Addr} {cb : Nat} {b : List UInt8} (hb : Sl ar Γ Ab b) (hbc : b.length ≤ cb) (hp : Pre [] Γ w0) {r : (List Span) × Int} (h : dN secret group b = some r) : Calls Tryz.prog 20 #[.string secret, ii group, .slice Ab b.length cb] w0 (Outc Γ [] w0 (lZ r)) := by
 refine goV [6, 7] func20 ntmps20 results20 hp fun F hF => ?_
 refine WC.rs (aV (k:=aV (k:=WR.done (WC.seq (WC.rs (mV (k:=mV (k:=?_))))))))
 obtain ⟨z1, hz2, h⟩ := bnd h
 refine vqV (caV call48) (fun w hw => iY (Γ := Gh.all w) secret hsecret group hgroup (Sat.all w) hz2) (k:=sV dJ (k:=WR.done ?_))
 refine ciV h (fun hb3 h => ?_) (fun hb3 h => ?_)
 ·
  refine WC.rs (aV (k:=aV (k:=WR.done ?_)))
  refine WC.ret ?_
  intro w hw
  have hw := hw.pad
  exact re_ r [0] h hF hw ⟨none, 0, [], rfl, rfl, (Own.nil aW _ 131), iV, trivial⟩
 refine WC.skip (wc_ (WC.seq (WC.rs (mV (k:=sV (ai rfl underlying61) (k:=sV dl (k:=WR.done ?_)))))))
 refine ciV h (fun hb4 h => ?_) (fun hb4 h => ?_)
 ·
  refine WC.rs (aV (k:=aV (k:=WR.done ?_)))
  refine WC.ret ?_
  intro w hw
  have hw := hw.pad
  exact re_ r [0] h hF hw ⟨none, 0, [], rfl, rfl, (Own.nil aW _ 131), iV, trivial⟩
 refine WC.skip (wc_ (WC.rs (mV (k:=sV (ai rfl underlying61) (k:=sV eI (k:=aV (k:=WR.done ?_)))))))
 refine WC.seq (WC.rs (mV (k:=sV aI (k:=WR.done ?_))))
 refine ciV h (fun hb5 h => ?_) (fun hb5 h => ?_)
 ·
  refine WC.rs (aV (k:=aV (k:=WR.done ?_)))
  refine WC.ret ?_
  intro w hw
  have hw := hw.pad
  exact re_ r [0] h hF hw ⟨none, 0, [], rfl, rfl, (Own.nil aW _ 131), iV, trivial⟩
 refine WC.skip (wc_ (WC.rs (mV (k:=mV (k:=?_)))))
 obtain ⟨hk6, h⟩ := ah h
 refine sV (iA (c := cb) (hi := (w64 ((b.length : Int) - 8)).toNat) (xs := b) underlying61 sizeOf5 rfl rfl (dp rfl hk6) (aY hk6) hbc) (k:=?_)
 obtain ⟨z7, hz8, h⟩ := bnd h
 refine vqV (caV call53) (fun w hw => fu (Γ := Gh.all w) ((hb.cut_to (hi := (w64 ((b.length : Int) - 8)).toNat) (aY hk6)).mono hw.sat.le_all) (eY hbc ((w64 ((b.length : Int) - 8)).toNat)) 0 iV (Sat.all w) hz8) (k:=mV (k:=sV exV (k:=sV exV (k:=sV exV (k:=aV (k:=aV (k:=aV (k:=?_))))))))
 refine WR.done (WC.seq (WC.rs (mV (k:=sV ci (k:=mV (k:=vG0 (h:=fun hg9 => moV) (k:=vG0 (h:=fun hg10 => ci rfl (grV hg10)) (k:=?_))))))))
 refine sV pkO (k:=WR.done ?_)
 refine ciV h (fun hb11 h => ?_) (fun hb11 h => ?_)
 ·
  refine WC.rs (aV (k:=aV (k:=WR.done ?_)))
  refine WC.ret ?_
  intro w hw
  have hw := hw.pad
  exact re_ r [0] h hF hw ⟨none, 0, [], rfl, rfl, (Own.nil aW _ 131), iV, trivial⟩
 refine WC.skip (wc_ (WC.rs (mV (k:=mV (k:=sV (iA (c := cb) (hi := (w64 ((b.length : Int) - 8)).toNat) (xs := b) underlying61 sizeOf5 rfl rfl (dp rfl hk6) (aY hk6) hbc) (k:=mV (k:=?_)))))))
 obtain ⟨hk12, h⟩ := ah h
 obtain ⟨z13, hz14, h⟩ := bnd h
 refine vqV (caV call53) (fun w hw => fu (Γ := Gh.all w) ((hb.cut_to (hi := (w64 ((b.length : Int) - 8)).toNat) (aY hk6)).mono hw.sat.le_all) (eY hbc ((w64 ((b.length : Int) - 8)).toNat)) z7.2.1 (dP hk12) (Sat.all w) hz14) (k:=mV (k:=sV exV (k:=sV exV (k:=sV exV (k:=aV (k:=aV (k:=aV (k:=?_))))))))
 refine WR.done (WC.seq (WC.rs (mV (k:=sV ci (k:=WR.done ?_)))))
 refine ciV h (fun hb15 h => ?_) (fun hb15 h => ?_)
 ·
  refine WC.rs (aV (k:=aV (k:=WR.done ?_)))
  refine WC.ret ?_
  intro w hw
  have hw := hw.pad
  exact re_ r [0] h hF hw ⟨none, 0, [], rfl, rfl, (Own.nil aW _ 131), iV, trivial⟩
 refine WC.skip (wc_ (WC.rs (mV (k:=mV (k:=mV (k:=?_))))))
 obtain ⟨hk16, h⟩ := ah h
 obtain ⟨hk17, h⟩ := ah h
 refine sV (wW (c := cb) (lo := z13.2.1.toNat) (hi := (w64 ((b.length : Int) - 8)).toNat) (xs := b) underlying61 sizeOf5 rfl rfl (ww rfl hk16) (dp rfl hk6) (of_decide_eq_true hk17) (aY hk6) hbc) (k:=?_)
 obtain ⟨z18, hz19, h⟩ := bnd h
 refine ecV [] (caV call54) (fun w hp => mz (hb.cut (cap := cb) (lo := z13.2.1.toNat) (hi := (w64 ((b.length : Int) - 8)).toNat) (of_decide_eq_true hk17) (aY hk6) hbc) (po hbc z13.2.1.toNat ((w64 ((b.length : Int) - 8)).toNat)) hp hz19) ?_
 rintro Γ20 _ _ hl21 ⟨A24, c25, row26, rfl, rfl, hr27, hr28, _⟩
 refine cwV 56 [_] (mV (k:=sV exV (k:=sV exV (k:=aV (k:=aV (k:=WR.done (WC.seq ?_)))))))
 refine WC.rs (mV (k:=sV ci (k:=WR.done ?_)))
 refine ciV h (fun hb29 h => ?_) (fun hb29 h => ?_)
 ·
  refine WC.rs (aV (k:=aV (k:=WR.done ?_)))
  refine WC.ret ?_
  intro w hw
  have hw := hw.pad
  exact re_ r [0] h hF hw ⟨none, 0, [], rfl, rfl, (Own.nil aW _ 131), iV, trivial⟩
 refine WC.skip (wc_ (WC.seq (WC.rs (mV (k:=mV (k:=sV ci (k:=WR.done ?_)))))))
 refine ciV h (fun hb30 h => ?_) (fun hb30 h => ?_)
 ·
  refine WC.rs (aV (k:=aV (k:=WR.done ?_)))
  refine WC.ret ?_
  intro w hw
  have hw := hw.pad
  exact re_ r [0] h hF hw ⟨none, 0, [], rfl, rfl, (Own.nil aW _ 131), iV, trivial⟩
 refine WC.skip (wc_ (WC.seq (WC.seq ?_)))
 refine leV fun h031 => ?_
 refine dM (CC F Γ20 [row26]) (bo_ [0] gR h031) fun k => ?_
 change WH _ _ _ _ (CC F Γ20 [_]) _ 11 _ _
 refine hV 0 k (q:=moV) (k:=hV 1 k (q:=moV) (k:=hV 2 k (q:=ji (c := cb) (lo := (w64 ((b.length : Int) - 8)).toNat) (xs := b) underlying61 sizeOf5 rfl rfl (dp rfl hk6) (aY hk6)) (k:=hV 3 k (q:=sT ((hb.mono hl21).cut_from (c := cb) (lo := (w64 ((b.length : Int) - 8)).toNat) (aY hk6) hbc) underlying61 underlying5 underlying9 rfl rfl) (k:=hV 4 k (q:=moV) (k:=hV 5 k (q:=moV) (k:=hV 6 k (q:=moV) (k:=hV 7 k (q:=iA (c := cb) (hi := (w64 ((b.length : Int) - 8)).toNat) (xs := b) underlying61 sizeOf5 rfl rfl (dp rfl hk6) (aY hk6) hbc) (k:=?_))))))))
 refine wl_ 8 rfl ?_
 obtain ⟨z32, hz33, h⟩ := bnd h
 refine ecV [] (caV call52) (fun w hp => lN secret hsecret ((hb.mono hl21).cut_to (hi := (w64 ((b.length : Int) - 8)).toNat) (aY hk6)) (eY hbc ((w64 ((b.length : Int) - 8)).toNat)) hp hz33) ?_
 rintro Γ34 _ _ hl35 ⟨A38, c39, row40, rfl, rfl, hr41, _⟩
 refine cwV 72 [_, _] ?_
 refine WR.nil (nxV (bo_ [1] hl35 h031) fun k => ?_)
 refine wl_ 9 rfl (sV (yf (i := 0) rfl hr41 underlying61 underlying5 underlying9 rfl rfl) (k:=?_))
 refine WR.nil (nxV (bo_ [1] hl35 h031) fun k => ?_)
 refine hV 10 k (q:=sU) (k:=?_)
 refine WH.done (by kernel_rfl) ?_
 change WC _ _ _ _ _ _
 refine ciV h (fun hb42 h => ?_) (fun hb42 h => ?_)
 ·
  refine WC.rs (aV (k:=aV (k:=WR.done ?_)))
  refine WC.ret ?_
  intro w hw
  have hw := hw.pad
  exact re_ r [0] h hF hw ⟨none, 0, [], rfl, rfl, (Own.nil aW _ 131), iV, trivial⟩
 refine WC.skip (wc_ (WC.rs (mV (k:=aV (k:=aV (k:=WR.done ?_))))))
 exact WC.ret fun w hw => re_ r [1] h hF hw ⟨A24, c25, row26, rfl, rfl, (hr27.mono hl35), iV, trivial⟩
theorem kO {Av_ : Option Addr} {cv_ : Nat} {v_ : List Int} (hv_ : Sl intT Γ Av_ v_) (hv_c : v_.length ≤ cv_) (d : Dot) (hd : Dot.fits Γ  d) (hs : Sat Γ w0) {r : Bool} (h : d8 v_ d = some r) : CQ Tryz.prog 55 #[.slice Av_ v_.length cv_, .agg (Dot.cs d).toArray] w0 (.bool r) := by
 refine goQ [4] func55 ntmps55 results55 hs fun F hF => ?_
 refine WC.rs ?_
 refine bxV (v := .agg (Dot.cs d).toArray) fun g1 => ?_
 refine aV (k:=WR.done (WC.seq (WC.rs (aV (k:=WR.done (WC.block ?_))))))
 refine WC.forI h (fun (i3 : Nat) (s : Unit) σ w => match s with | () => slots σ [(0, .slice Av_ v_.length cv_), (3, (pq g1)), (5, ii (i3 : Int))] ∧ CC F Γ [[(g1, .cells (Dot.cs d).toArray 53 (0, 0))]] w ∧ True) ?_ ?_
 ·
  intro w hw
  exact ⟨slK, hw, trivial⟩
 rintro f2 i3 ⟨⟩ σ w hi4 hlt5 hge6 ⟨hsl, hw, -⟩
 refine slV hsl hw [_] ?_; clear hw hsl
 refine WC.seq (WC.rs (mV (k:=mV (k:=sV (ai rfl underlying44) (k:=sV aI (k:=WR.done ?_))))))
 refine coV (fun hb7 => ?_) (fun hb7 => ?_)
 ·
  have hl8 := ilt hb7
  have h := hlt5 hl8
  refine WC.skip (wc_ (WC.seq (WC.block (WC.rs (mV (k:=sV (q_fl 0 iL) (k:=sV (ldV 0 isAgg3) (k:=?_))))))))
  refine sV eI (k:=sV dl (k:=WR.done ?_))
  refine ciV h (fun hb9 h => ?_) (fun hb9 h => ?_)
  ·
   refine WC.seq ?_
   refine drV ?_
   refine zV (q_fl 1 iO) (k:=zV (ldV 0 isAgg2) (k:=zV bJ (k:=zV moV (k:=wG1 (h:=fun hg10 => moV) (k:=wG1 (h:=fun hg11 => moV) (k:=wG1 (h:=fun hg12 => bB (i := i3) underlying44 sizeOf2 rfl (grV hg12) (grV hg12) hl8 (hv_.some_ hl8)) (k:=wG1 (h:=fun hg13 => q_ld (c := 0) (v := ii (gt v_ i3)) (hv_.intT_at hl8).2 rfl isAgg2 (grV hg13) rfl) (k:=?_))))))))
   refine wG1 (h:=fun hg14 => q_fl 1 iO) (k:=wG1 (h:=fun hg15 => ldV 0 isAgg2 (hx:=grV hg15)) (k:=wG1 (h:=fun hg16 => bX rfl (grV hg16) (grV hg16)) (k:=zV pkA (k:=zV aoV (k:=?_)))))
   refine WQ.nil ?_
   change WC _ _ _ _ _ _
   exact WC.ret fun w hw => rq_ r h hF hw
  refine WC.skip (wc_ ?_)
  refine WC.region ?_
  refine mV (k:=sV (aK rfl rfl rfl (bx hl8 hv_.le)) (k:=aV (k:=?_)))
  refine WR.nil ?_
  intro w hw
  exact ⟨hl8, (), h, slK, hw, trivial⟩
 have h := hge6 (ige hb7)
 refine WC.exit ?_
 change WC _ _ _ _ _ _
 refine WC.rs (aV (k:=WR.done ?_))
 exact WC.ret fun w hw => rq_ r h hF hw
theorem l4 {Av_ : Option Addr} {cv_ : Nat} {v_ : List Int} (hv_ : Sl intT Γ Av_ v_) (hv_c : v_.length ≤ cv_) {Al : Option Addr} {cl : Nat} {l : List Span} (hl : Sl aW Γ Al l) (hlc : l.length ≤ cl) (hs : Sat Γ w0) {r : Bool} (h : cL v_ l = some r) : CQ Tryz.prog 21 #[.slice Av_ v_.length cv_, .slice Al l.length cl] w0 (.bool r) := by
 refine goQ [4] func21 ntmps21 results21 hs fun F hF => ?_
 refine WC.rs (aV (k:=WR.done (WC.seq (WC.rs (aV (k:=WR.done (WC.block ?_)))))))
 refine WC.forI h (fun (i2 : Nat) (s : Unit) σ w => match s with | () => slots σ [(0, .slice Av_ v_.length cv_), (1, .slice Al l.length cl), (5, ii (i2 : Int))] ∧ CC F Γ [] w ∧ True) ?_ ?_
 ·
  intro w hw
  exact ⟨slK, hw, trivial⟩
 rintro f1 i2 ⟨⟩ σ w hi3 hlt4 hge5 ⟨hsl, hw, -⟩
 refine slV hsl hw [] ?_; clear hw hsl
 refine WC.seq (WC.rs (mV (k:=mV (k:=sV (ai rfl underlying54) (k:=sV aI (k:=WR.done ?_))))))
 refine coV (fun hb6 => ?_) (fun hb6 => ?_)
 ·
  have hl7 := ilt hb6
  have h := hlt4 hl7
  refine WC.skip (wc_ (WC.seq (WC.block (WC.seq ?_))))
  refine drV ?_
  refine zV moV (k:=zV moV (k:=zV moV (k:=zV (bB (i := i2) underlying54 sizeOf131 rfl rfl rfl hl7 (hl.some_ hl7)) (k:=zV (aM (i2 * 3) bU rfl rfl (hl.some_ hl7) rfl) (k:=zV (q_ld (c := 0) (v := ii (gt l i2).s) (hl.spanT_at hl7).2 rfl isAgg3 rfl rfl) (k:=zV moV (k:=zV moV (k:=?_))))))))
  refine zV (bB (i := i2) underlying54 sizeOf131 rfl rfl rfl hl7 (hl.some_ hl7)) (k:=zV (aM (i2 * 3 + 2) cS rfl rfl (hl.some_ hl7) rfl) (k:=zV (q_ld (c := 2) (v := ii (gt l i2).t) (hl.spanT_at hl7).2 rfl isAgg2 rfl rfl) (k:=zV (bh (v := .agg #[ii (gt l i2).s, ii (gt l i2).t]) rfl (jB rfl rfl) (fun w => by kernel_rfl)) (k:=?_))))
  obtain ⟨z8, hz9, h⟩ := bnd h
  refine wc rfl rfl rfl (dU (caV call55) (fun w hw => kO (Γ := Gh.all w) (hv_.mono hw.sat.le_all) hv_c (⟨(gt l i2).s, (gt l i2).t⟩ : Dot) ⟨(hl.spanT_at hl7).1.1, (hl.spanT_at hl7).1.2.2⟩ (Sat.all w) hz9)) (zV dJ (k:=?_))
  refine WQ.nil ?_
  change WC _ _ _ _ _ _
  refine ciV h (fun hb10 h => ?_) (fun hb10 h => ?_)
  ·
   refine WC.rs (aV (k:=WR.done ?_))
   exact WC.ret fun w hw => rq_ r h hF hw
  refine WC.skip (wc_ ?_)
  refine WC.region ?_
  refine mV (k:=sV (aK rfl rfl rfl (bx hl7 hl.le)) (k:=aV (k:=?_)))
  refine WR.nil ?_
  intro w hw
  exact ⟨hl7, (), h, slK, hw, trivial⟩
 have h := hge5 (ige hb6)
 refine WC.exit ?_
 change WC _ _ _ _ _ _
 refine WC.rs (aV (k:=WR.done ?_))
 exact WC.ret fun w hw => rq_ r h hF hw
theorem sX (secret : ByteArray) (hsecret : secret.size ≤ lim) (group : Int) (hgroup : I64 group) (hs : Sat Γ w0) {r : Bool} (h : lk secret group = some r) : CQ Tryz.prog 158 #[.string secret, ii group] w0 (.bool r) := by
 refine goQ [4] func158 ntmps158 results158 hs fun F hF => ?_
 refine WC.rs (aV (k:=WR.done (WC.rs (mV (k:=sV (aQ rfl underlying9) (k:=sV bX (k:=mV (k:=?_))))))))
 refine vG1 (h:=fun hg1 => moV) (k:=vG1 (h:=fun hg2 => aQ rfl underlying9 (grV hg2)) (k:=vG1 (h:=fun hg3 => dc rfl (grV hg3)) (k:=sV pkA (k:=mV (k:=vG1 (h:=fun hg4 => moV) (k:=vG1 (h:=fun hg5 => bX rfl (grV hg5)) (k:=sV pkA (k:=?_))))))))
 refine aV (k:=WR.done ?_)
 exact WC.ret fun w hw => rq_ r h hF hw
abbrev lJ (gr_ : Nat) (er_ : Nat) (r : ac × Int) (U : List Rowb) (Γ : Gh) (v : Value) : Prop := ∃ (rowr_' : Rowb), v = .int .i64 r.2 ∧ U = [rowr_'] ∧ ac.ob er_ Γ gr_ rowr_' r.1 ∧ I64 r.2 ∧ True
theorem aX {gr_ er_ : Nat} {rowr_ : Rowb} {r_ : ac} (hr_ : ac.ob er_ Γ gr_ rowr_ r_) (hp : Pre [rowr_] Γ w0) {r : Option (ac × Int)} (h : b7 r_ = some r) : Calls Tryz.prog 320 #[(pq gr_)] w0 (rQ [{ v := (.iface 473 (.agg #[])), recovered := false }] Γ [rowr_] w0 (fun r => lJ gr_ er_ r) r) := by
 refine goV [2] func320 ntmps320 results320 hp fun F hF => ?_
 refine WC.rs (aV (k:=WR.done (WC.seq ?_)))
 obtain ⟨A0_1, c0_1, hrow_1, ho0_1, ho1_1, ho2_1, -⟩ := id hr_
 refine ufC 0 hrow_1 [_] ?_
 refine drV ?_
 refine zV moV (k:=zV nlV (k:=zV (q_fl 0 pU) (k:=zV (ldV 0 isAgg61) (k:=zV moV (k:=zV nlV (k:=zV (q_fl 1 kE) (k:=zV (ldV 0 isAgg3) (k:=?_))))))))
 obtain ⟨z2, hz3, h⟩ := bnd h
 refine wc rfl rfl rfl (dU (caV call159) (fun w hw => kl (Γ := Gh.all w) (ho1_1.mono hw.sat.le_all) ho0_1 r_.at_ ho2_1 (Sat.all w) hz3)) (zV moV (k:=zV exV (k:=zV exV (k:=zV exV (k:=zV aoV (k:=zV aoV (k:=zV aoV (k:=?_))))))))
 refine WQ.nil ?_
 change WC _ _ _ _ _ _
 refine foC [0] hrow_1 [_] ?_
 refine WC.cut (fun σ w => cY r_ z2  = some r ∧ slots σ [(0, (pq gr_)), (3, ii z2.1), (4, ii z2.2.1)] ∧ CC F Γ [rowr_] w ∧ True) ?_ ?_
 ·
  refine WC.rs (mV (k:=sV ci (k:=WR.done ?_)))
  refine ciV h (fun hb5 h => ?_) (fun hb5 h => ?_)
  ·
   refine WC.region ?_
   refine sV (jm (v := .agg #[]) rfl (fun w => by kernel_rfl)) (k:=sV (om rfl rfl (fun w => mkif underlying473 w)) (k:=?_))
   refine oe (v := .iface 473 (.agg #[])) rfl (gZ rfl rfl) ?_
   intro w hw
   obtain rfl := Option.some.inj h
   subst hF
   first | exact ei hw | exact fun _ => ei hw
  refine WC.skip ?_
  intro w hw
  exact ⟨h, slK, hw, trivial⟩
 rintro σ w ⟨h, hsl, hw, -⟩
 refine slV hsl hw [_] ?_; clear hw hsl
 refine WC.rs (mV (k:=mV (k:=sV nlV (k:=sV (q_fl 1 kE) (k:=?_)))))
 obtain ⟨A0_8, c0_8, hrow_8, ho0_8, ho1_8, ho2_8, -⟩ := id hr_
 refine ufR 0 hrow_8 [_] ?_
 refine stV 0 (ii z2.2.1) #[.slice A0_8 r_.b.length c0_8, ii z2.2.1] sizeOf3 (k:=WR.done (WC.rs (mV (k:=aV (k:=WR.done ?_)))))
 refine WC.ret ?_
 intro w hw
 obtain ⟨hk10, h⟩ := ah h
 obtain ⟨row_9, hrow_9, hob_9⟩ : ∃ rw : Rowb, rw = ([[(gr_, .cells #[.slice A0_8 r_.b.length c0_8, ii z2.2.1] er_ (0, 0))]] : List Rowb).flatten ∧ ac.ob er_ Γ gr_ rw (⟨r_.b, z2.2.1⟩ : ac) := ⟨_, rfl, A0_8, c0_8, rfl, ho0_8, ho1_8, (dP hk10), trivial⟩
 have hw := hw.fold (is := [0]) rfl hrow_9
 obtain ⟨hk11, h⟩ := ah h
 obtain rfl := Option.some.inj h
 subst hF
 exact bO (is := [0]) (by kernel_rfl) hw rfl ⟨row_9, rfl, rfl, hob_9, (dP hk11), trivial⟩
abbrev lX (gr_ : Nat) (er_ : Nat) (r : ac × Int) (U : List Rowb) (Γ : Gh) (v : Value) : Prop := ∃ (rowr_' : Rowb), v = .int .i64 r.2 ∧ U = [rowr_'] ∧ ac.ob er_ Γ gr_ rowr_' r.1 ∧ I64 r.2 ∧ True
theorem gY {gr_ er_ : Nat} {rowr_ : Rowb} {r_ : ac} (hr_ : ac.ob er_ Γ gr_ rowr_ r_) (hp : Pre [rowr_] Γ w0) {r : Option (ac × Int)} (h : cq r_ = some r) : Calls Tryz.prog 321 #[(pq gr_)] w0 (rQ [{ v := (.iface 473 (.agg #[])), recovered := false }] Γ [rowr_] w0 (fun r => lX gr_ er_ r) r) := by
 refine goV [2] func321 ntmps321 results321 hp fun F hF => ?_
 refine WC.rs (aV (k:=WR.done (WC.rs (mV (k:=?_)))))
 obtain ⟨z1, hz2, h⟩ := bnd h
 rcases z1 with _ | o3
 ·
  have h := jd rfl h
  refine gp (is := [0]) rfl (caV call320) rfl (fun w hp => aX hr_ hp hz2) ?_
  intro Γ4 hl5
  intro w hw
  obtain rfl := Option.some.inj h
  subst hF
  first | exact ei hw | exact fun _ => ei hw
 have h := ja rfl h
 refine ecV [0] (caV call320) (fun w hp => aX hr_ hp hz2) ?_
 rintro Γ6 _ _ hl7 ⟨row10, rfl, rfl, hr11, hr12, _⟩
 refine cwV 4 [_] (aV (k:=WR.done ?_))
 refine WC.ret ?_
 intro w hw
 obtain rfl := Option.some.inj h
 subst hF
 exact bO (is := [0]) (by kernel_rfl) hw rfl ⟨row10, rfl, rfl, hr11, hr12, trivial⟩
abbrev lj (gr_ : Nat) (er_ : Nat) (r : ac × Span) (U : List Rowb) (Γ : Gh) (v : Value) : Prop := ∃ (rowr_' : Rowb), v = .agg #[.int .i64 r.2.s, .int .i64 r.2.f, .int .i64 r.2.t] ∧ U = [rowr_'] ∧ ac.ob er_ Γ gr_ rowr_' r.1 ∧ Span.fits Γ  r.2 ∧ True
theorem gQ {gr_ er_ : Nat} {rowr_ : Rowb} {r_ : ac} (hr_ : ac.ob er_ Γ gr_ rowr_ r_) (hp : Pre [rowr_] Γ w0) {r : Option (ac × Span)} (h : bT r_ = some r) : Calls Tryz.prog 245 #[(pq gr_)] w0 (rQ [{ v := (.iface 473 (.agg #[])), recovered := false }] Γ [rowr_] w0 (fun r => lj gr_ er_ r) r) := by
 refine lm (N := 24) (rs := [.cell 2 131]) (args := [(pq gr_)]) func245 rfl ntmps245 results245 rfl ?_
 obtain ⟨F, hF⟩ : ∃ F : Fm, F = ⟨ids [rowr_], w0, Γ⟩ := ⟨_, rfl⟩
 refine WC.here (C := CC F Γ [rowr_]) ?_ (hF ▸ hp.start)
 refine WC.rs ?_
 refine alV zeroValue131 fun g1 => ?_
 refine WR.done (WC.rs (mV (k:=?_)))
 obtain ⟨z2, hz3, h⟩ := bnd h
 rcases z2 with _ | o4
 ·
  have h := jd rfl h
  refine gp (is := [1]) rfl (caV call321) rfl (fun w hp => gY hr_ hp hz3) ?_
  intro Γ5 hl6
  intro w hw
  obtain rfl := Option.some.inj h
  subst hF
  first | exact ei hw | exact fun _ => ei hw
 have h := ja rfl h
 refine ecV [1] (caV call321) (fun w hp => gY hr_ hp hz3) ?_
 rintro Γ7 _ _ hl8 ⟨row11, rfl, rfl, hr12, hr13, _⟩
 refine cwV 5 [_, _] (sV (bh (v := .agg #[ii o4.2, ii 0, ii 0]) rfl (mR rfl) (fun w => by kernel_rfl)) (k:=?_))
 refine alV zeroValue131 fun g14 => ?_
 refine stV 0 (.agg #[ii o4.2, ii 0, ii 0]) #[ii o4.2, ii 0, ii 0] sizeOf131 (k:=WR.done (WC.rs (mV (k:=?_))))
 obtain ⟨z15, hz16, h⟩ := bnd h
 rcases z15 with _ | o17
 ·
  have h := jd rfl h
  refine gp (is := [1]) rfl (caV call320) rfl (fun w hp => aX hr12 hp hz16) ?_
  intro Γ18 hl19
  intro w hw
  obtain rfl := Option.some.inj h
  subst hF
  first | exact ei hw | exact fun _ => ei hw
 have h := ja rfl h
 refine ecV [1] (caV call320) (fun w hp => aX hr12 hp hz16) ?_
 rintro Γ20 _ _ hl21 ⟨row24, rfl, rfl, hr25, hr26, _⟩
 refine cwV 8 [_, _, _] (sV (q_fl 1 de) (k:=stV 1 (ii o17.2) #[ii o4.2, ii o17.2, ii 0] sizeOf2 (k:=WR.done ?_)))
 refine WC.cut (fun σ w => ∃ (x29 : Span), ∃ (o31 : ac), ∃ (Γ27 : Gh), ∃ (row32 : Rowb), cN x29 o31 = some r ∧ slots σ [(2, (pq g1)), (3, (pq g14))] ∧ CC F Γ27 [row32, [(g14, .cells (Span.cs x29).toArray 131 (0, 0))], [(g1, .cells #[ii 0, ii 0, ii 0] 131 (0, 0))]] w ∧ Gh.le Γ20 Γ27 ∧ Span.fits Γ27  x29 ∧ ac.ob er_ Γ27 gr_ row32 o31 ∧ True) ?_ ?_
 ·
  refine leV fun h034 => ?_
  refine dM (CC F Γ20 [[(g1, .cells #[ii 0, ii 0, ii 0] 131 (0, 0))]]) (bo_ [2] gR h034) fun k => ?_
  change WH _ _ _ _ (CC F Γ20 [_, _, _]) _ 7 _ _
  refine hV 0 k (q:=q_fl 1 de) (k:=hV 2 k (q:=moV) (k:=?_))
  obtain ⟨z35, hz36, h⟩ := bnd h
  refine WH.each (l := [1, 3]) (by kernel_rfl) (by simp) ?_
  intro i hi; simp only [List.mem_cons, List.not_mem_nil, or_false] at hi
  rcases hi with rfl | rfl
  ·
   refine ⟨_, rfl, ?_⟩
   refine sV (ldV 1 isAgg2) (k:=?_)
   refine WR.nil (nxV (bo_ [2] gR h034) fun k => ?_)
   refine wl_ 3 rfl ?_
   rcases z35 with _ | o37
   ·
    have h := jd rfl h
    refine gp (is := [0]) rfl (caV call320) rfl (fun w hp => aX hr25 hp hz36) ?_
    intro Γ38 hl39
    intro w hw
    obtain rfl := Option.some.inj h
    subst hF
    first | exact ei hw | exact fun _ => ei hw
   have h := ja rfl h
   refine ecV [0] (caV call320) (fun w hp => aX hr25 hp hz36) ?_
   rintro Γ40 _ _ hl41 ⟨row44, rfl, rfl, hr45, hr46, _⟩
   refine cwV 13 [_, _, _] ?_
   refine WR.nil (nxV (bo_ [2] hl41 h034) fun k => ?_)
   refine hV 4 k (q:=cK) (k:=hV 5 k (q:=q_fl 2 cS) (k:=wl_ 6 rfl (stV 1 (ii (w64 (o17.2 + o37.2))) #[ii o4.2, ii o17.2, ii (w64 (o17.2 + o37.2))] sizeOf2 (k:=?_))))
   refine WR.nil (nxV (bo_ [2] hl41 h034) fun k => ?_)
   refine WH.done (by kernel_rfl) ?_
   intro w hw
   exact ⟨(⟨o4.2, o17.2, (w64 (o17.2 + o37.2))⟩ : Span), o37.1, Γ40, row44, h, slK, hw, hl41, ⟨hr13, hr26, (dL _)⟩, hr45, trivial⟩
  refine ⟨_, rfl, ?_⟩
  rcases z35 with _ | o37
  ·
   have h := jd rfl h
   refine gp (is := [0]) rfl (caV call320) rfl (fun w hp => aX hr25 hp hz36) ?_
   intro Γ38 hl39
   intro w hw
   obtain rfl := Option.some.inj h
   subst hF
   first | exact ei hw | exact fun _ => ei hw
  have h := ja rfl h
  refine ecV [0] (caV call320) (fun w hp => aX hr25 hp hz36) ?_
  rintro Γ40 _ _ hl41 ⟨row44, rfl, rfl, hr45, hr46, _⟩
  refine cwV 13 [_, _, _] ?_
  refine WR.nil (nxV (bo_ [2] hl41 h034) fun k => ?_)
  refine wl_ 1 rfl (sV (ldV 1 isAgg2) (k:=?_))
  refine WR.nil (nxV (bo_ [2] hl41 h034) fun k => ?_)
  refine hV 4 k (q:=cK) (k:=hV 5 k (q:=q_fl 2 cS) (k:=wl_ 6 rfl (stV 1 (ii (w64 (o17.2 + o37.2))) #[ii o4.2, ii o17.2, ii (w64 (o17.2 + o37.2))] sizeOf2 (k:=?_))))
  refine WR.nil (nxV (bo_ [2] hl41 h034) fun k => ?_)
  refine WH.done (by kernel_rfl) ?_
  intro w hw
  exact ⟨(⟨o4.2, o17.2, (w64 (o17.2 + o37.2))⟩ : Span), o37.1, Γ40, row44, h, slK, hw, hl41, ⟨hr13, hr26, (dL _)⟩, hr45, trivial⟩
 rintro σ w ⟨x29, o31, Γ27, row32, h, hsl, hw, hl28, hf30, ho33, -⟩
 refine slV hsl hw [_, _, _] ?_; clear hw hsl
 refine WC.cut (fun σ w => cO x29 o31  = some r ∧ slots σ [(2, (pq g1)), (3, (pq g14))] ∧ CC F Γ27 [row32, [(g14, .cells (Span.cs x29).toArray 131 (0, 0))], [(g1, .cells #[ii 0, ii 0, ii 0] 131 (0, 0))]] w ∧ True) ?_ ?_
 ·
  refine WC.rs (sV (q_fl 2 cS) (k:=sV (ldV 1 isAgg2) (k:=sV (q_fl 1 de) (k:=sV (ldV 1 isAgg2) (k:=sV aI (k:=WR.done ?_))))))
  refine ciV h (fun hb47 h => ?_) (fun hb47 h => ?_)
  ·
   refine WC.region ?_
   refine sV (jm (v := .agg #[]) rfl (fun w => by kernel_rfl)) (k:=sV (om rfl rfl (fun w => mkif underlying473 w)) (k:=?_))
   refine oe (v := .iface 473 (.agg #[])) rfl (gZ rfl rfl) ?_
   intro w hw
   obtain rfl := Option.some.inj h
   subst hF
   first | exact ei hw | exact fun _ => ei hw
  refine WC.skip ?_
  intro w hw
  exact ⟨h, slK, hw, trivial⟩
 rintro σ w ⟨h, hsl, hw, -⟩
 refine slV hsl hw [_, _, _] ?_; clear hw hsl
 refine WC.rs (sV (ldaV 1 (Span.cs x29) isAgg131 sizeOf131) (k:=stV 2 (.agg (Span.cs x29).toArray) (Span.cs x29).toArray sizeOf131 (k:=WR.done ?_)))
 refine WC.ret ?_
 intro w hw
 obtain rfl := Option.some.inj h
 subst hF
 exact ⟨[.agg (Span.cs x29).toArray], (tq (i := 2) (us := (Span.cs x29)) hw rfl isAgg131 sizeOf131 (by kernel_rfl) rfl n4), bO (is := [0]) (by kernel_rfl) hw rfl ⟨row32, rfl, rfl, ho33, hf30, trivial⟩⟩
abbrev ka (gr_ : Nat) (er_ : Nat) (r : ac × (List Span)) (U : List Rowb) (Γ : Gh) (v : Value) : Prop := ∃ (rowr_' : Rowb), ∃ (A0 : Option Addr), ∃ (c0 : Nat), ∃ (row0 : Rowb), v = .slice A0 r.2.length c0 ∧ U = [rowr_', row0] ∧ ac.ob er_ Γ gr_ rowr_' r.1 ∧ Own aW Γ 131 row0 A0 c0 r.2 ∧ True
theorem fJ {gr_ er_ : Nat} {rowr_ : Rowb} {r_ : ac} (hr_ : ac.ob er_ Γ gr_ rowr_ r_) (hp : Pre [rowr_] Γ w0) {r : Option (ac × (List Span))} (h : bH r_ = some r) : Calls Tryz.prog 244 #[(pq gr_), .func (.func 245) #[(pq gr_)] #[]] w0 (rQ [{ v := (.iface 473 (.agg #[])), recovered := false }] Γ [rowr_] w0 (fun r => ka gr_ er_ r) r) := by
 refine goV [4] func244 ntmps244 results244 hp fun F hF => ?_
 refine WC.rs (aV (k:=WR.done (WC.rs (mV (k:=?_)))))
 obtain ⟨z1, hz2, h⟩ := bnd h
 rcases z1 with _ | o3
 ·
  have h := jd rfl h
  refine gp (is := [0]) rfl (caV call320) rfl (fun w hp => aX hr_ hp hz2) ?_
  intro Γ4 hl5
  intro w hw
  obtain rfl := Option.some.inj h
  subst hF
  first | exact ei hw | exact fun _ => ei hw
 have h := ja rfl h
 refine ecV [0] (caV call320) (fun w hp => aX hr_ hp hz2) ?_
 rintro Γ6 _ _ hl7 ⟨row10, rfl, rfl, hr11, hr12, _⟩
 refine cwV 8 [_] (aV (k:=WR.done ?_))
 refine WC.cut (fun σ w => cn o3  = some r ∧ slots σ [(1, .func (.func 245) #[(pq gr_)] #[]), (5, ii o3.2)] ∧ CC F Γ6 [row10] w ∧ True) ?_ ?_
 ·
  refine WC.seq ?_
  obtain ⟨A0_13, c0_13, hrow_13, ho0_13, ho1_13, ho2_13, -⟩ := id hr11
  refine ufC 0 hrow_13 [_] ?_
  refine drV ?_
  refine zV moV (k:=zV moV (k:=zV nlV (k:=zV (q_fl 0 pU) (k:=zV (ldV 0 isAgg61) (k:=zV (ai rfl underlying61) (k:=zV moV (k:=zV nlV (k:=?_))))))))
  refine zV (q_fl 1 kE) (k:=zV (ldV 0 isAgg3) (k:=zV eI (k:=zV bJ (k:=?_))))
  refine WQ.nil ?_
  change WC _ _ _ _ _ _
  refine ciV h (fun hb14 h => ?_) (fun hb14 h => ?_)
  ·
   refine WC.region ?_
   refine sV (jm (v := .agg #[]) rfl (fun w => by kernel_rfl)) (k:=sV (om rfl rfl (fun w => mkif underlying473 w)) (k:=?_))
   refine oe (v := .iface 473 (.agg #[])) rfl (gZ rfl rfl) ?_
   intro w hw
   obtain rfl := Option.some.inj h
   subst hF
   first | exact ei hw | exact fun _ => ei hw
  refine WC.skip ?_
  intro w hw
  have hw := hw.fold (is := [0]) rfl hrow_13
  exact ⟨h, slK, hw, trivial⟩
 rintro σ w ⟨h, hsl, hw, -⟩
 refine slV hsl hw [_] ?_; clear hw hsl
 refine WC.rs (aV (k:=WR.done (WC.seq (WC.rs (mV (k:=mV (k:=WR.done ?_)))))))
 refine WC.block ?_
 refine WC.forU h (fun (i29 : Nat) (s : (List Span) × ac) σ w => match s with | (out_20, o25) => ∃ (Γ18 : Gh), ∃ (A21 : Option Addr), ∃ (c22 : Nat), ∃ (row23 : Rowb), ∃ (row26 : Rowb), slots σ [(1, .func (.func 245) #[(pq gr_)] #[]), (6, .slice A21 out_20.length c22), (23, ii o3.2), (24, ii (i29 : Int))] ∧ CC F Γ18 [row23, row26] w ∧ Gh.le Γ6 Γ18 ∧ Own aW Γ18 131 row23 A21 c22 out_20 ∧ ac.ob er_ Γ18 gr_ row26 o25 ∧ True) ?_ ?_
 ·
  intro w hw
  have hw := hw.pad
  exact ⟨Γ6, none, 0, [], row10, slK, hw, gR, (Own.nil aW _ 131), hr11, trivial⟩
 rintro f28 i29 ⟨out_20, o25⟩ σ w hi30 hlt31 hge32 ⟨Γ18, A21, c22, row23, row26, hsl, hw, hl19, ho24, ho27, -⟩
 refine slV hsl hw [_, _] ?_; clear hw hsl
 refine WC.rs (sV aI (k:=WR.done (WC.seq ?_)))
 refine coV (fun hb33 => ?_) (fun hb33 => ?_)
 ·
  have hl34 := ilti hb33
  have h := hlt31 hl34
  refine WC.skip (wc_ (WC.seq (WC.block ?_)))
  refine WC.region ?_
  refine mV (k:=mU (v := .func (.func 245) #[(pq gr_)] #[]) (k:=?_))
  obtain ⟨z35, hz36, h⟩ := bnd h
  rcases z35 with _ | o37
  ·
   have h := jd rfl h
   refine gp (is := [1]) rfl (ng (first := #[(pq gr_)]) call245 rfl (by kernel_rfl) (by kernel_rfl)) rfl (fun w hp => gQ ho27 hp hz36) ?_
   intro Γ38 hl39
   intro w hw
   obtain rfl := Option.some.inj h
   subst hF
   first | exact ei hw | exact fun _ => ei hw
  have h := ja rfl h
  refine ecV [1] (ng (first := #[(pq gr_)]) call245 rfl (by kernel_rfl) (by kernel_rfl)) (fun w hp => gQ ho27 hp hz36) ?_
  rintro Γ40 _ _ hl41 ⟨row44, rfl, rfl, hr45, hr46, _⟩
  refine cwV 28 [_, _] ?_
  refine bsV (Span.cs o37.2).toArray 131 fun g47 => ?_
  obtain ⟨hk48, h⟩ := ah h
  refine apV 2 [o37.2] uz (ho24.mono hl41) (of_decide_eq_true hk48) (fun w hw => bw (i := 0) rfl (by exact ⟨rfl, hr46⟩) hw) ?_
  intro row49 A50 c51 ho52
  refine aV (k:=?_)
  refine WR.nil ?_
  change WC _ _ _ _ _ _
  refine WC.region ?_
  refine sV (aK rfl rfl rfl (m5 hl34 hr12)) (k:=mV (k:=?_))
  refine WR.nil ?_
  intro w hw
  exact ⟨hl34, ((out_20 ++ [o37.2]), o37.1), h, Γ40, A50, c51, row49, row44, slK, (hw.on [2, 1]), (hl19.trans hl41), ho52, hr45, trivial⟩
 have h := hge32 (igei hb33)
 refine WC.exit ?_
 change WC _ _ _ _ _ _
 refine WC.rs (mV (k:=aV (k:=WR.done ?_)))
 refine WC.ret ?_
 intro w hw
 obtain rfl := Option.some.inj h
 subst hF
 exact bO (is := [1, 0]) (by kernel_rfl) hw rfl ⟨row26, A21, c22, row23, rfl, rfl, ho27, ho24, trivial⟩
abbrev qx (gr_ : Nat) (er_ : Nat) (r : ac × (List Span)) (U : List Rowb) (Γ : Gh) (v : Value) : Prop := ∃ (rowr_' : Rowb), ∃ (A0 : Option Addr), ∃ (c0 : Nat), ∃ (row0 : Rowb), v = .slice A0 r.2.length c0 ∧ U = [rowr_', row0] ∧ ac.ob er_ Γ gr_ rowr_' r.1 ∧ Own aW Γ 131 row0 A0 c0 r.2 ∧ True
theorem md {gr_ er_ : Nat} {rowr_ : Rowb} {r_ : ac} (hr_ : ac.ob er_ Γ gr_ rowr_ r_) (hp : Pre [rowr_] Γ w0) {r : Option (ac × (List Span))} (h : gw r_ = some r) : Calls Tryz.prog 243 #[(pq gr_)] w0 (rQ [{ v := (.iface 473 (.agg #[])), recovered := false }] Γ [rowr_] w0 (fun r => qx gr_ er_ r) r) := by
 refine goV [2] func243 ntmps243 results243 hp fun F hF => ?_
 refine WC.rs (aV (k:=WR.done (WC.rs (mV (k:=mV (k:=sV (jG (v := .func (.func 245) #[(pq gr_)] #[]) rfl (by kernel_rfl)) (k:=?_)))))))
 obtain ⟨z1, hz2, h⟩ := bnd h
 rcases z1 with _ | o3
 ·
  have h := jd rfl h
  refine gp (is := [0]) rfl (caV call244) rfl (fun w hp => fJ hr_ hp hz2) ?_
  intro Γ4 hl5
  intro w hw
  obtain rfl := Option.some.inj h
  subst hF
  first | exact ei hw | exact fun _ => ei hw
 have h := ja rfl h
 refine ecV [0] (caV call244) (fun w hp => fJ hr_ hp hz2) ?_
 rintro Γ6 _ _ hl7 ⟨row10, A12, c13, row14, rfl, rfl, hr11, hr15, _⟩
 refine cwV 6 [_, _] (aV (k:=WR.done ?_))
 refine WC.ret ?_
 intro w hw
 obtain rfl := Option.some.inj h
 subst hF
 exact bO (is := [0, 0]) (by kernel_rfl) hw rfl ⟨row10, A12, c13, row14, rfl, rfl, hr11, hr15, trivial⟩
set_option maxRecDepth 100000 in
theorem wg (p0 : Value) (p1 : Value) : idle Tryz.prog 319 #[p0, p1] := by
  intro w
  refine rx (n := 13) (args := [p0, p1]) Tryz.func319 rfl Tryz.ntmps319 Tryz.results319 (nq rfl rfl) rfl rfl rfl rfl ?_
  refine WC.here (C := fun w2 => w2 = w) ?_ rfl
  refine WC.block ?_
  refine WC.rs ?_
  refine va rfl rfl rfl (wS rfl rfl (fun w => vd Tryz.underlying20 w)) ?_
  refine WR.nil ?_
  change WC _ _ _ _ _ _
  refine WC.ctk (b := true) (by kernel_rfl) rfl ?_
  refine WC.region ?_
  refine va rfl rfl rfl (fN (v := .nilIface) rfl (by kernel_rfl)) ?_
  refine WR.nil ?_
  intro w2 hw
  exact ⟨⟨_, rfl⟩, hw⟩
abbrev iT (gb0 : Nat) (Ab0v : Option Addr) (cb0v : Nat) (b0v : List Span) (gb1 : Nat) (b1v : Int) (r : (List Span) × Int) (U : List Rowb) (Γ : Gh) (v : Value) : Prop := ∃ (Ab0_0 : Option Addr), ∃ (cb0_0 : Nat), v = .tuple #[] ∧ U = [[(gb0, .cells #[.slice Ab0_0 r.1.length cb0_0] 54 (0, 0))], [(gb1, .cells #[.int .i64 r.2] 27 (0, 0))]] ∧ r.1.length ≤ cb0_0 ∧ Sl aW Γ Ab0_0 r.1 ∧ I64 r.2 ∧ True
theorem eK {gb0 : Nat} {Ab0v : Option Addr} {cb0v : Nat} {b0v : List Span} (hb0v : Sl aW Γ Ab0v b0v) (hb0vc : b0v.length ≤ cb0v) {gb1 : Nat} (b1v : Int) (hb1v : I64 b1v) (hp : Pre [[(gb0, .cells #[.slice Ab0v b0v.length cb0v] 54 (0, 0))], [(gb1, .cells #[ii b1v] 27 (0, 0))]] Γ w0) {r : (List Span) × Int} (h : da b0v b1v = some r) : CallsD Tryz.prog 319 #[(pq gb0), (pq gb1)] (.panicking [{ v := (.iface 473 (.agg #[])), recovered := false }]) w0 (fun e u' w' => u' = .panicking [{ v := (.iface 473 (.agg #[])), recovered := true }] ∧ (Outc Γ [[(gb0, .cells #[.slice Ab0v b0v.length cb0v] 54 (0, 0))], [(gb1, .cells #[ii b1v] 27 (0, 0))]] w0 (iT gb0 Ab0v cb0v b0v gb1 b1v r)) e w') := by
 refine tg (n := 13) (args := [(pq gb0), (pq gb1)]) func319 rfl ntmps319 results319 (nq rfl rfl) rfl rfl rfl rfl ?_
 obtain ⟨F, hF⟩ : ∃ F : Fm, F = ⟨ids [[(gb0, .cells #[.slice Ab0v b0v.length cb0v] 54 (0, 0))], [(gb1, .cells #[ii b1v] 27 (0, 0))]], w0, Γ⟩ := ⟨_, rfl⟩
 refine WC.here (C := CC F Γ [[(gb0, .cells #[.slice Ab0v b0v.length cb0v] 54 (0, 0))], [(gb1, .cells #[ii b1v] 27 (0, 0))]]) ?_ (hF ▸ hp.start)
 refine WC.block (WC.rs (sV (w8 rfl rfl rfl (fun w => yp underlying20 w)) (k:=WR.done ?_)))
 refine WC.cfk (b := false) (by kernel_rfl) rfl ?_
 refine WC.rs (sV (uE underlying473 rfl rfl) (k:=sV exV (k:=sV exV (k:=WR.done ?_))))
 refine WC.ctk (b := true) (by kernel_rfl) rfl ?_
 refine WC.rs ?_
 refine alV zeroValue473 fun g1 => ?_
 refine stV 0 (.agg #[]) #[] sizeOf473 (k:=WR.done (WC.rs (aV (k:=WR.done ?_))))
 refine WC.region ?_
 refine mV (k:=stV 1 (.slice none 0 0) #[.slice none 0 0] sizeOf54 (k:=stV 2 (ii 2) #[ii 2] sizeOf27 (k:=?_)))
 refine WR.nil ?_
 intro w hw
 obtain rfl := Option.some.inj h
 subst hF
 exact bO (is := [1, 1]) (by kernel_rfl) hw rfl ⟨none, 0, rfl, rfl, (Nat.zero_le 0), (Sl.nil aW _ none), iV, trivial⟩
theorem r4 {Al : Option Addr} {cl : Nat} {l : List Span} (hl : Sl aW Γ Al l) (hlc : l.length ≤ cl) (hs : Sat Γ w0) {r : Bool} (h : ee l = some r) : CQ Tryz.prog 246 #[.slice Al l.length cl] w0 (.bool r) := by
 refine goQ [2] func246 ntmps246 results246 hs fun F hF => ?_
 refine WC.rs (aV (k:=WR.done (WC.rs (sV (jm (v := .agg #[ii 0, ii 0, ii 0]) rfl (fun w => by kernel_rfl)) (k:=?_)))))
 refine alV zeroValue131 fun g1 => ?_
 refine stV 0 (.agg #[ii 0, ii 0, ii 0]) #[ii 0, ii 0, ii 0] sizeOf131 (k:=WR.done (WC.seq (WC.rs (mV (k:=sV (ai rfl underlying54) (k:=mV (k:=WR.done ?_)))))))
 refine WC.block ?_
 refine WC.forI h (fun (i5 : Nat) (x2 : Span) σ w => slots σ [(0, .slice Al l.length cl), (3, (pq g1)), (7, .slice Al l.length cl), (8, ii (l.length : Int)), (9, ii (i5 : Int))] ∧ CC F Γ [[(g1, .cells (Span.cs x2).toArray 131 (0, 0))]] w ∧ Span.fits Γ  x2 ∧ True) ?_ ?_
 ·
  intro w hw
  exact ⟨slK, hw, ⟨iV, iV, iV⟩, trivial⟩
 rintro f4 i5 x2 σ w hi6 hlt7 hge8 ⟨hsl, hw, hf3, -⟩
 refine slV hsl hw [_] ?_; clear hw hsl
 refine WC.rs (sV aI (k:=WR.done (WC.seq ?_)))
 refine coV (fun hb9 => ?_) (fun hb9 => ?_)
 ·
  have hl10 := ilt hb9
  have h := hlt7 hl10
  refine WC.skip (wc_ (WC.seq (WC.block (WC.rs (sV (bB (i := i5) underlying54 sizeOf131 rfl rfl rfl hl10 (hl.some_ hl10)) (k:=sV (tT (c := 0) (vs := (Span.cs (gt l i5))) (hl.spanT_at hl10).2 rfl isAgg131 sizeOf131 rfl rfl rfl) (k:=?_)))))))
  refine alV zeroValue131 fun g11 => ?_
  refine stV 0 (.agg (Span.cs (gt l i5)).toArray) (Span.cs (gt l i5)).toArray sizeOf131 (k:=WR.done (WC.seq (WC.rs (sV (q_fl 0 bU) (k:=sV (ldV 0 isAgg3) (k:=sV aI (k:=mV (k:=?_))))))))
  refine vG0 (h:=fun hg12 => q_fl 0 bU) (k:=vG0 (h:=fun hg13 => ldV 0 isAgg3 (hx:=grV hg13)) (k:=vG0 (h:=fun hg14 => bJ rfl (grV hg14)) (k:=sV pkO (k:=mV (k:=vG0 (h:=fun hg15 => q_fl 1 de) (k:=vG0 (h:=fun hg16 => ldV 0 isAgg2 (hx:=grV hg16)) (k:=vG0 (h:=fun hg17 => aI rfl (grV hg17)) (k:=?_))))))))
  refine sV pkO (k:=mV (k:=vG0 (h:=fun hg18 => q_fl 1 de) (k:=vG0 (h:=fun hg19 => ldV 0 isAgg2 (hx:=grV hg19)) (k:=vG0 (h:=fun hg20 => q_fl 2 cS) (k:=vG0 (h:=fun hg21 => ldV 0 isAgg2 (hx:=grV hg21)) (k:=vG0 (h:=fun hg22 => bJ rfl (grV hg22) (grV hg22)) (k:=sV pkO (k:=?_))))))))
  refine mV (k:=vG0 (h:=fun hg23 => q_fl 2 cS) (k:=vG0 (h:=fun hg24 => ldV 0 isAgg2 (hx:=grV hg24)) (k:=vG0 (h:=fun hg25 => bJ rfl (grV hg25)) (k:=sV pkO (k:=mV (k:=vG0 (h:=fun hg26 => q_fl 0 bU) (k:=vG0 (h:=fun hg27 => ldV 0 isAgg3 (hx:=grV hg27)) (k:=?_))))))))
  refine vG0 (h:=fun hg28 => q_fl 0 bU) (k:=vG0 (h:=fun hg29 => ldV 1 isAgg3 (hx:=grV hg29)) (k:=vG0 (h:=fun hg30 => aI rfl (grV hg30) (grV hg30)) (k:=sV pkO (k:=mV (k:=vG0 (h:=fun hg31 => q_fl 0 bU) (k:=vG0 (h:=fun hg32 => ldV 0 isAgg3 (hx:=grV hg32)) (k:=vG0 (h:=fun hg33 => q_fl 0 bU) (k:=?_))))))))
  refine vG0 (h:=fun hg34 => ldV 1 isAgg3 (hx:=grV hg34)) (k:=vG0 (h:=fun hg35 => dl rfl (grV hg35) (grV hg35)) (k:=vG0 (h:=fun hg36 => cI (v := .bool ((gt l i5).s == x2.s)) rfl (grV hg36)) (k:=vh1 (c0 := (!((((((decide ((gt l i5).s < 1)) || (decide (16 < (gt l i5).s))) || (decide ((gt l i5).f < 1))) || (decide ((gt l i5).t < (gt l i5).f))) || (decide (4611686018427387904 < (gt l i5).t))) || (decide ((gt l i5).s < x2.s))))) (g := ((gt l i5).s == x2.s)) rfl rfl rfl rfl rfl (fun _ => QV.qo (q_fl 1 de)) (vh1 (c0 := (!((((((decide ((gt l i5).s < 1)) || (decide (16 < (gt l i5).s))) || (decide ((gt l i5).f < 1))) || (decide ((gt l i5).t < (gt l i5).f))) || (decide (4611686018427387904 < (gt l i5).t))) || (decide ((gt l i5).s < x2.s))))) (g := ((gt l i5).s == x2.s)) rfl rfl rfl rfl rfl (fun hg38 => QV.qo (ldV 0 isAgg2 (hx:=grV hg38))) (vh1 (c0 := (!((((((decide ((gt l i5).s < 1)) || (decide (16 < (gt l i5).s))) || (decide ((gt l i5).f < 1))) || (decide ((gt l i5).t < (gt l i5).f))) || (decide (4611686018427387904 < (gt l i5).t))) || (decide ((gt l i5).s < x2.s))))) (g := ((gt l i5).s == x2.s)) rfl rfl rfl rfl rfl (fun _ => QV.qo (q_fl 2 cS)) ?_)))))
  refine vh1 (c0 := (!((((((decide ((gt l i5).s < 1)) || (decide (16 < (gt l i5).s))) || (decide ((gt l i5).f < 1))) || (decide ((gt l i5).t < (gt l i5).f))) || (decide (4611686018427387904 < (gt l i5).t))) || (decide ((gt l i5).s < x2.s))))) (g := ((gt l i5).s == x2.s)) rfl rfl rfl rfl rfl (fun hg40 => QV.qo (ldV 1 isAgg2 (hx:=grV hg40))) (vh1 (c0 := (!((((((decide ((gt l i5).s < 1)) || (decide (16 < (gt l i5).s))) || (decide ((gt l i5).f < 1))) || (decide ((gt l i5).t < (gt l i5).f))) || (decide (4611686018427387904 < (gt l i5).t))) || (decide ((gt l i5).s < x2.s))))) (g := ((gt l i5).s == x2.s)) rfl rfl rfl rfl rfl (fun hg41 => QV.qo (cK rfl (grV hg41))) (vh1 (c0 := (!((((((decide ((gt l i5).s < 1)) || (decide (16 < (gt l i5).s))) || (decide ((gt l i5).f < 1))) || (decide ((gt l i5).t < (gt l i5).f))) || (decide (4611686018427387904 < (gt l i5).t))) || (decide ((gt l i5).s < x2.s))))) (g := ((gt l i5).s == x2.s)) rfl rfl rfl rfl rfl (fun hg42 => QV.qo (dc rfl (grV hg42) (grV hg42))) (vG0 (h:=fun hg43 => fU rfl (grV hg43) (mJ (c := (!((((((decide ((gt l i5).s < 1)) || (decide (16 < (gt l i5).s))) || (decide ((gt l i5).f < 1))) || (decide ((gt l i5).t < (gt l i5).f))) || (decide (4611686018427387904 < (gt l i5).t))) || (decide ((gt l i5).s < x2.s))))) (g := ((gt l i5).s == x2.s)) (y := (decide ((gt l i5).f ≤ (w64 (x2.t + 1))))) hg43)) (k:=sV pkO (k:=WR.done ?_)))))
  refine ciV h (fun hb44 h => ?_) (fun hb44 h => ?_)
  ·
   refine WC.rs (aV (k:=WR.done ?_))
   exact WC.ret fun w hw => rq_ r h hF hw
  refine WC.skip (wc_ ?_)
  refine WC.region ?_
  refine sV (ldaV 0 (Span.cs (gt l i5)) isAgg131 sizeOf131) (k:=stV 1 (.agg (Span.cs (gt l i5)).toArray) (Span.cs (gt l i5)).toArray sizeOf131 (k:=?_))
  refine WR.nil ?_
  change WC _ _ _ _ _ _
  refine WC.region ?_
  refine sV (aK rfl rfl rfl (bx hl10 hl.le)) (k:=mV (k:=?_))
  refine WR.nil ?_
  intro w hw
  exact ⟨hl10, (gt l i5), h, slK, (hw.on [1]), (hl.spanT_at hl10).1, trivial⟩
 have h := hge8 (ige hb9)
 refine WC.exit ?_
 change WC _ _ _ _ _ _
 refine WC.rs (mV (k:=sV (ai rfl underlying54) (k:=sV dc (k:=aV (k:=WR.done ?_)))))
 exact WC.ret fun w hw => rq_ r h hF hw
abbrev jz (r : (List Span) × Int) (U : List Rowb) (Γ : Gh) (v : Value) : Prop := ∃ (A0 : Option Addr), ∃ (c0 : Nat), v = .tuple #[.slice A0 r.1.length c0, .int .i64 r.2] ∧ U = [] ∧ r.1.length ≤ c0 ∧ Sl aW Γ A0 r.1 ∧ I64 r.2 ∧ True
theorem jA {Ab : Option Addr} {cb : Nat} {b : List UInt8} (hb : Sl ar Γ Ab b) (hbc : b.length ≤ cb) (hp : Pre [] Γ w0) {r : (List Span) × Int} (h : cP b = some r) : Calls Tryz.prog 242 #[.slice Ab b.length cb, .func (.func 243) #[] #[], .func (.func 246) #[] #[]] w0 (Outc Γ [] w0 (jz r)) := by
 refine sI (n := 32) (args := [.slice Ab b.length cb, .func (.func 243) #[] #[], .func (.func 246) #[] #[]]) func242 rfl ntmps242 rfl ?_
 obtain ⟨F, hF⟩ : ∃ F : Fm, F = ⟨ids [], w0, Γ⟩ := ⟨_, rfl⟩
 refine WX.here (C := CC F Γ []) ?_ (hF ▸ hp.start)
 refine WX.seq ?_
 refine WC.region ?_
 refine alV zeroValue54 fun g1 => ?_
 refine alV zeroValue27 fun g2 => ?_
 refine WR.nil ?_
 change WX _ _ _ _ _ _ _
 refine WX.defer (v := .func (.func 319) #[] #[(pq g1), (pq g2)]) (d := ⟨.fn (.func 319) #[(pq g1), (pq g2)], #[]⟩) rfl rfl rfl rfl (jG (v := .func (.func 319) #[] #[(pq g1), (pq g2)]) rfl (by kernel_rfl)) (uX rfl rfl) ?_
 refine WX.last ?_
 change WC _ _ _ _ _ _
 refine WC.rs (mV (k:=sV (bh (v := .agg #[.slice Ab b.length cb, ii 0]) rfl (mR rfl) (fun w => by kernel_rfl)) (k:=?_)))
 refine bxV (v := .agg #[.slice Ab b.length cb, ii 0]) fun g3 => ?_
 refine aV (k:=WR.done (WC.rs (mU (v := .func (.func 243) #[] #[]) (k:=mV (k:=?_)))))
 obtain ⟨row_4, hrow_4, hob_4⟩ : ∃ rw : Rowb, rw = ([[(g3, .cells #[.slice Ab b.length cb, ii 0] 475 (0, 0))]] : List Rowb).flatten ∧ ac.ob 475 Γ g3 rw (⟨b, 0⟩ : ac) := ⟨_, rfl, Ab, cb, rfl, hbc, hb, iV, trivial⟩
 refine foR [0] hrow_4 [_, _, _] ?_
 obtain ⟨z5, hz6, h⟩ := bnd h
 rcases z5 with _ | o7
 ·
  have h := jd rfl h
  refine gp (is := [0]) rfl (fO (caps := #[]) call243 rfl (by kernel_rfl) (by kernel_rfl)) rfl (fun w hp => md hob_4 hp hz6) ?_
  intro Γ8 hl9
  change ∀ w, CC F Γ8 [[(g2, .cells #[ii 0] 27 (0, 0))], [(g1, .cells #[.slice none 0 0] 54 (0, 0))]] w → _
  obtain ⟨z10, hz11, h⟩ := bnd h
  refine ov (rs := [.cell 6 54, .cell 7 27]) (is := [1, 0]) results242 (mG call319) rfl rfl (fun w hp => eK (Sl.nil aW _ none) (Nat.zero_le 0) 0 iV hp hz11) ?_
  rintro Γ12 _ _ hl13 ⟨A16, c17, rfl, rfl, hc19, hr18, hr20, _⟩
  change WRt _ _ _ (CC F Γ12 [_, _]) _
  unfold WRt
  intro w hw
  obtain rfl := Option.some.inj h
  subst hF
  exact ⟨[.slice A16 z10.1.length c17, ii z10.2], (ko (i := 0) hw rfl isAgg54 (by kernel_rfl) rfl (ko (i := 1) hw rfl isAgg27 (by kernel_rfl) rfl n4)), bO (is := []) (by kernel_rfl) hw rfl ⟨A16, c17, rfl, rfl, hc19, hr18, hr20, trivial⟩⟩
 have h := ja rfl h
 refine ecV [0] (fO (caps := #[]) call243 rfl (by kernel_rfl) (by kernel_rfl)) (fun w hp => md hob_4 hp hz6) ?_
 rintro Γ21 _ _ hl22 ⟨row25, A27, c28, row29, rfl, rfl, hr26, hr30, _⟩
 refine cwV 15 [_, _, _, _] ?_
 have hc35 := hr30.capz
 refine seR 1 [_, _, _, _] fun Γ31 hl32 hr33 => ?_
 have hs34 := hr30.sl hl32 hr33
 refine stV 3 (.slice A27 o7.2.length c28) #[.slice A27 o7.2.length c28] sizeOf54 (k:=WR.done ?_)
 refine WC.cut (fun σ w => cg o7  = some r ∧ slots σ [(6, (pq g1)), (7, (pq g2))] ∧ CC F Γ31 [row25, [(g2, .cells #[ii 0] 27 (0, 0))], [(g1, .cells #[.slice A27 o7.2.length c28] 54 (0, 0))]] w ∧ True) ?_ ?_
 ·
  refine WC.rs (mV (k:=sV nlV (k:=sV (q_fl 1 kE) (k:=?_))))
  obtain ⟨A0_36, c0_36, hrow_36, ho0_36, ho1_36, ho2_36, -⟩ := (hr26.mono hl32)
  refine ufR 0 hrow_36 [_, _, _, _] ?_
  refine sV (ldV 0 isAgg3) (k:=mV (k:=sV (ai rfl underlying61) (k:=sV ci (k:=mV (k:=vG0 (h:=fun hg37 => cI (v := .func (.func 246) #[] #[]) rfl (by kernel_rfl)) (k:=vG0 (h:=fun hg38 => ldV 3 isAgg54) (k:=?_)))))))
  obtain ⟨z40, hz41, h⟩ := bnd h
  refine vC0 (h:=fun hg39 => dU (fO (caps := #[]) (args := #[.slice A27 o7.2.length c28]) call246 rfl (grV hg39) ((congrArg (· ++ #[]) (nh (grV hg39))).trans (by kernel_rfl))) (fun w hw => r4 (Γ := Gh.all w) (hs34.mono hw.sat.le_all) hc35 (Sat.all w) (nv hz41 hg39))) (k:=vG0 (h:=fun hg42 => dJ rfl (grV hg42)) (k:=sV pkO (k:=WR.done ?_)))
  refine ciV h (fun hb43 h => ?_) (fun hb43 h => ?_)
  ·
   refine WC.region ?_
   refine sV (jm (v := .agg #[]) rfl (fun w => by kernel_rfl)) (k:=sV (om rfl rfl (fun w => mkif underlying473 w)) (k:=?_))
   refine oe (v := .iface 473 (.agg #[])) rfl (gZ rfl rfl) ?_
   change ∀ w, CC F Γ31 [[(g3, .cells #[.slice A0_36 o7.1.b.length c0_36, ii o7.1.at_] 475 (0, 0))], [], [(g2, .cells #[ii 0] 27 (0, 0))], [(g1, .cells #[.slice A27 o7.2.length c28] 54 (0, 0))]] w → _
   obtain ⟨z46, hz47, h⟩ := bnd h
   refine ov (rs := [.cell 6 54, .cell 7 27]) (is := [3, 2]) results242 (mG call319) rfl rfl (fun w hp => eK hs34 hc35 0 iV hp hz47) ?_
   rintro Γ48 _ _ hl49 ⟨A52, c53, rfl, rfl, hc55, hr54, hr56, _⟩
   change WRt _ _ _ (CC F Γ48 [_, _, _, _]) _
   unfold WRt
   intro w hw
   obtain rfl := Option.some.inj h
   subst hF
   exact ⟨[.slice A52 z46.1.length c53, ii z46.2], (ko (i := 0) hw rfl isAgg54 (by kernel_rfl) rfl (ko (i := 1) hw rfl isAgg27 (by kernel_rfl) rfl n4)), bO (is := []) (by kernel_rfl) hw rfl ⟨A52, c53, rfl, rfl, hc55, hr54, hr56, trivial⟩⟩
  refine WC.skip ?_
  intro w hw
  have hw := hw.fold (is := [0]) rfl hrow_36
  exact ⟨h, slK, (hw.on [0, 1, 1]), trivial⟩
 rintro σ w ⟨h, hsl, hw, -⟩
 refine slV hsl hw [_, _, _] ?_; clear hw hsl
 refine WC.rs (sV (ldV 2 isAgg54) (k:=stV 2 (.slice A27 o7.2.length c28) #[.slice A27 o7.2.length c28] sizeOf54 (k:=stV 1 (ii 0) #[ii 0] sizeOf27 (k:=WR.done ?_))))
 refine WC.ret ?_
 refine wD (rs := [.cell 6 54, .cell 7 27]) results242 (mG call319) (wg ((pq g1)) ((pq g2))) ?_
 unfold WRt
 intro w hw
 obtain rfl := Option.some.inj h
 subst hF
 exact ⟨[.slice A27 o7.2.length c28, ii 0], (ko (i := 2) hw rfl isAgg54 (by kernel_rfl) rfl (ko (i := 1) hw rfl isAgg27 (by kernel_rfl) rfl n4)), bO (is := []) (by kernel_rfl) hw rfl ⟨A27, c28, rfl, rfl, hc35, hs34, iV, trivial⟩⟩
abbrev sP (r : (List Span) × Int) (U : List Rowb) (Γ : Gh) (v : Value) : Prop := ∃ (A0 : Option Addr), ∃ (c0 : Nat), v = .tuple #[.slice A0 r.1.length c0, .int .i64 r.2] ∧ U = [] ∧ r.1.length ≤ c0 ∧ Sl aW Γ A0 r.1 ∧ I64 r.2 ∧ True
theorem sO {Ab : Option Addr} {cb : Nat} {b : List UInt8} (hb : Sl ar Γ Ab b) (hbc : b.length ≤ cb) (hp : Pre [] Γ w0) {r : (List Span) × Int} (h : dQ b = some r) : Calls Tryz.prog 160 #[.slice Ab b.length cb] w0 (Outc Γ [] w0 (sP r)) := by
 refine goV [2, 3] func160 ntmps160 results160 hp fun F hF => ?_
 refine WC.rs (aV (k:=aV (k:=WR.done (WC.rs (mV (k:=?_))))))
 obtain ⟨z1, hz2, h⟩ := bnd h
 refine ecV [] (caV call242) (fun w hp => jA hb hbc hp hz2) ?_
 rintro Γ3 _ _ hl4 ⟨A7, c8, rfl, rfl, hc10, hr9, hr11, _⟩
 refine cwV 5 [] (sV exV (k:=sV exV (k:=aV (k:=aV (k:=WR.done ?_)))))
 exact WC.ret fun w hw => re_ r [] h hF hw ⟨A7, c8, rfl, rfl, hc10, hr9, hr11, trivial⟩
abbrev qy (r : List UInt8) (U : List Rowb) (Γ : Gh) (v : Value) : Prop := ∃ (A0 : Option Addr), ∃ (c0 : Nat), ∃ (row0 : Rowb), v = .slice A0 r.length c0 ∧ U = [row0] ∧ Own ar Γ 5 row0 A0 c0 r ∧ True
theorem j7 (n : Int) (hn : I64 n) (hp : Pre [] Γ w0) {r : List UInt8} (h : dn n = some r) : Calls Tryz.prog 249 #[ii n] w0 (Outc Γ [] w0 (qy r)) := by
 refine goV [2] func249 ntmps249 results249 hp fun F hF => ?_
 refine WC.rs (aV (k:=WR.done (WC.rs (aV (k:=WR.done (WC.rs (mV (k:=?_))))))))
 refine sV tF (k:=sV (cj underlying205 underlying2) (k:=aV (k:=WR.done (WC.seq (WC.block ?_)))))
 refine WC.loopN h (fun (s : (List UInt8) × Int) σ w => match s with | (b_1, u_6) => ∃ (A2 : Option Addr), ∃ (c3 : Nat), ∃ (row4 : Rowb), slots σ [(3, .slice A2 b_1.length c3), (4, .int .u64 u_6)] ∧ CC F Γ [row4] w ∧ Own ar Γ 5 row4 A2 c3 b_1 ∧ True) ?_ ?_
 ·
  intro w hw
  have hw := hw.pad
  exact ⟨none, 0, [], slK, hw, (Own.nil ar _ 5), trivial⟩
 rintro f7 ⟨b_1, u_6⟩ σ w h ⟨A2, c3, row4, hsl, hw, ho5, -⟩
 refine slV hsl hw [_] ?_; clear hw hsl
 refine WC.seq (WC.rs (mV (k:=sV bJ (k:=WR.done ?_))))
 refine ciV h (fun hb11 h => ?_) (fun hb11 h => ?_)
 ·
  refine WC.skip (wc_ (WC.seq (WC.block ?_)))
  refine WC.region ?_
  refine mV (k:=mV (k:=sV (cj underlying5 underlying205) (k:=sV q_or (k:=?_))))
  refine bsV #[.int .u8 (ior .u8 (wu8 u_6) 128)] 5 fun g12 => ?_
  obtain ⟨hk13, h⟩ := ah h
  obtain ⟨hk14, h⟩ := ah h
  refine apV 1 [(b8 (ior .u8 (wu8 u_6) 128))] bq ho5 (of_decide_eq_true hk14) (fun w hw => bw (i := 0) rfl (by exact (by show [Value.int .u8 (ior .u8 (wu8 u_6) 128)] = [Value.int .u8 _]; rw [fS (zy hk13)])) hw) ?_
  intro row15 A16 c17 ho18
  refine aV (k:=?_)
  refine WR.nil ?_
  change WC _ _ _ _ _ _
  refine WC.region ?_
  refine mV (k:=sV (oE rfl rfl rfl (by decide)) (k:=aV (k:=?_)))
  refine WR.nil ?_
  intro w hw
  exact ⟨((b_1 ++ [(b8 (ior .u8 (wu8 u_6) 128))]), (ishr .u64 u_6 7)), h, A16, c17, row15, slK, (hw.on [1]), ho18, trivial⟩
 refine WC.exit ?_
 change WC _ _ _ _ _ _
 refine WC.rs (mV (k:=mV (k:=sV (cj underlying5 underlying205) (k:=?_))))
 refine bsV #[.int .u8 (wu8 u_6)] 5 fun g19 => ?_
 obtain ⟨hk20, h⟩ := ah h
 refine apV 1 [(b8 (wu8 u_6))] bq ho5 (of_decide_eq_true hk20) (fun w hw => bw (i := 0) rfl (by exact (by show [Value.int .u8 (wu8 u_6)] = [Value.int .u8 _]; rw [fS (pp _)])) hw) ?_
 intro row21 A22 c23 ho24
 refine aV (k:=WR.done ?_)
 exact WC.ret fun w hw => re_ r [1] h hF hw ⟨A22, c23, row21, rfl, rfl, ho24, trivial⟩
abbrev pG (r : List UInt8) (U : List Rowb) (Γ : Gh) (v : Value) : Prop := ∃ (A0 : Option Addr), ∃ (c0 : Nat), ∃ (row0 : Rowb), v = .slice A0 r.length c0 ∧ U = [row0] ∧ Own ar Γ 5 row0 A0 c0 r ∧ True
theorem pF (s_ : ByteArray) (hs_ : s_.size ≤ lim) (hp : Pre [] Γ w0) {r : List UInt8} (h : ik s_ = some r) : Calls Tryz.prog 247 #[.string s_] w0 (Outc Γ [] w0 (pG r)) := by
 refine goV [2] func247 ntmps247 results247 hp fun F hF => ?_
 refine WC.rs (aV (k:=WR.done (WC.rs (mV (k:=sV (aQ rfl underlying9) (k:=?_))))))
 obtain ⟨z1, hz2, h⟩ := bnd h
 refine ecV [] (caV call249) (fun w hp => j7 (s_.size : Int) (uC hs_) hp hz2) ?_
 rintro Γ3 _ _ hl4 ⟨A7, c8, row9, rfl, rfl, hr10, _⟩
 refine cwV 5 [_] (mV (k:=?_))
 obtain ⟨hk11, h⟩ := ah h
 refine qG (xs := z1) (s := s_) (ti := t5) underlying61 underlying9 (by kernel_rfl) (by kernel_rfl) (by kernel_rfl) (by kernel_rfl) (i := 0) rfl rfl rfl rfl rfl rfl rfl hr10 (of_decide_eq_true hk11) ?_
 intro row12 A13 c14 ho15
 refine aV (k:=WR.done ?_)
 exact WC.ret fun w hw => re_ r [0] h hF hw ⟨A13, c14, row12, rfl, rfl, ho15, trivial⟩
theorem sJ {Ab : Option Addr} {cb : Nat} {b : List UInt8} (hb : Sl ar Γ Ab b) (hbc : b.length ≤ cb) (hs : Sat Γ w0) {r : Int} (h : fA b = some r) : CQ Tryz.prog 212 #[.slice Ab b.length cb] w0 (.int .u64 r) := by
 refine goQ [2] func212 ntmps212 results212 hs fun F hF => ?_
 refine WC.rs (aV (k:=WR.done (WC.rs (aV (k:=WR.done (WC.seq (WC.rs ?_)))))))
 refine mV (k:=sV (ai rfl underlying61) (k:=mV (k:=WR.done (WC.block ?_))))
 refine WC.forI h (fun (i4 : Nat) (h_1 : Int) σ w => slots σ [(3, .int .u64 h_1), (6, .slice Ab b.length cb), (7, ii (b.length : Int)), (8, ii (i4 : Int))] ∧ CC F Γ [] w ∧ U64 h_1 ∧ True) ?_ ?_
 ·
  intro w hw
  exact ⟨slK, hw, (show U64 14695981039346656037 by decide), trivial⟩
 rintro f3 i4 h_1 σ w hi5 hlt6 hge7 ⟨hsl, hw, hr2, -⟩
 refine slV hsl hw [] ?_; clear hw hsl
 refine WC.rs (sV aI (k:=WR.done (WC.seq ?_)))
 refine coV (fun hb8 => ?_) (fun hb8 => ?_)
 ·
  have hl9 := ilt hb8
  have h := hlt6 hl9
  refine WC.skip (wc_ (WC.seq (WC.block (WC.rs (sV (bB (i := i4) underlying61 sizeOf5 rfl rfl rfl hl9 (hb.some_ hl9)) (k:=sV (q_ld (c := 0) (v := .int .u8 (((gt b i4).toNat : Nat) : Int)) (hb.byteT_at hl9).2 rfl isAgg5 rfl rfl) (k:=aV (k:=?_))))))))
  refine WR.done ?_
  refine WC.region ?_
  refine mV (k:=mV (k:=sV (cj underlying205 underlying5) (k:=sV ny (k:=sV iQ (k:=aV (k:=?_))))))
  refine WR.nil ?_
  change WC _ _ _ _ _ _
  refine WC.region ?_
  refine sV (aK rfl rfl rfl (bx hl9 hb.le)) (k:=mV (k:=?_))
  refine WR.nil ?_
  intro w hw
  exact ⟨hl9, (wu64 ((ixor .u64 h_1 (wu64 (((gt b i4).toNat : Nat) : Int))) * 1099511628211)), h, slK, hw, (mE _), trivial⟩
 have h := hge7 (ige hb8)
 refine WC.exit ?_
 change WC _ _ _ _ _ _
 refine WC.rs (mV (k:=mV (k:=sV (oE rfl rfl rfl (by decide)) (k:=sV ny (k:=sV iQ (k:=aV (k:=WR.done ?_)))))))
 refine WC.rs (mV (k:=mV (k:=sV (oE rfl rfl rfl (by decide)) (k:=sV ny (k:=aV (k:=WR.done ?_))))))
 exact WC.ret fun w hw => rq_ r h hF hw
theorem n8 {Aparts : Option Addr} {cparts : Nat} {parts : List (List UInt8)} (hparts : Sl (slT ar) Γ Aparts parts) (hpartsc : parts.length ≤ cparts) (hs : Sat Γ w0) {r : Int} (h : dT parts = some r) : CQ Tryz.prog 248 #[.slice Aparts parts.length cparts] w0 (.int .u64 r) := by
 refine goQ [2] func248 ntmps248 results248 hs fun F hF => ?_
 refine WC.rs (aV (k:=WR.done (WC.rs (aV (k:=WR.done (WC.seq (WC.rs ?_)))))))
 refine mV (k:=sV (ai rfl underlying69) (k:=mV (k:=WR.done (WC.block ?_))))
 refine WC.forI h (fun (i7 : Nat) (all_1 : List UInt8) σ w => ∃ (A2 : Option Addr), ∃ (c3 : Nat), ∃ (row4 : Rowb), slots σ [(3, .slice A2 all_1.length c3), (6, .slice Aparts parts.length cparts), (7, ii (parts.length : Int)), (8, ii (i7 : Int))] ∧ CC F Γ [row4] w ∧ Own ar Γ 5 row4 A2 c3 all_1 ∧ True) ?_ ?_
 ·
  intro w hw
  have hw := hw.pad
  exact ⟨none, 0, [], slK, hw, (Own.nil ar _ 5), trivial⟩
 rintro f6 i7 all_1 σ w hi8 hlt9 hge10 ⟨A2, c3, row4, hsl, hw, ho5, -⟩
 refine slV hsl hw [_] ?_; clear hw hsl
 refine WC.rs (sV aI (k:=WR.done (WC.seq ?_)))
 refine coV (fun hb11 => ?_) (fun hb11 => ?_)
 ·
  have hl12 := ilt hb11
  have h := hlt9 hl12
  refine WC.skip (wc_ (WC.seq (WC.block (WC.rs (sV (bB (i := i7) underlying69 sizeOf61 rfl rfl rfl hl12 (hparts.some_ hl12)) (k:=?_))))))
  obtain ⟨A13, c14, hx15⟩ := hparts.slT_at i7
  refine sV (q_ld (c := 0) (v := .slice A13 (gt parts i7).length c14) (hx15 hl12).2 rfl isAgg61 rfl rfl) (k:=aV (k:=WR.done ?_))
  refine WC.region ?_
  refine mV (k:=mV (k:=?_))
  obtain ⟨hk16, h⟩ := ah h
  refine apV 0 ((gt parts i7)) bq ho5 (of_decide_eq_true hk16) (fun w hw => jo (hx15 hl12).1.2 hw) ?_
  intro row17 A18 c19 ho20
  refine aV (k:=?_)
  refine WR.nil ?_
  change WC _ _ _ _ _ _
  refine WC.region ?_
  refine sV (aK rfl rfl rfl (bx hl12 hparts.le)) (k:=mV (k:=?_))
  refine WR.nil ?_
  intro w hw
  exact ⟨hl12, (all_1 ++ (gt parts i7)), h, A18, c19, row17, slK, hw, ho20, trivial⟩
 have h := hge10 (ige hb11)
 refine WC.exit ?_
 change WC _ _ _ _ _ _
 refine WC.rs (mV (k:=?_))
 obtain ⟨z21, hz22, h⟩ := bnd h
 refine vqV (caV call212) (fun w hw => sJ (Γ := Gh.all w) (ho5.sl hw.sat.le_all (hw.ra 0 rfl)) ho5.capz (Sat.all w) hz22) (k:=aV (k:=WR.done ?_))
 exact WC.ret fun w hw => rq_ r h hF hw
abbrev rW (r : List UInt8) (U : List Rowb) (Γ : Gh) (v : Value) : Prop := ∃ (A0 : Option Addr), ∃ (c0 : Nat), v = .slice A0 r.length c0 ∧ U = [] ∧ r.length ≤ c0 ∧ Sl ar Γ A0 r ∧ True
theorem sj (secret : ByteArray) (hsecret : secret.size ≤ lim) {Ab : Option Addr} {cb : Nat} {b : List UInt8} (hb : Sl ar Γ Ab b) (hbc : b.length ≤ cb) (hp : Pre [] Γ w0) {r : List UInt8} (h : ij secret b = some r) : Calls Tryz.prog 161 #[.string secret, .slice Ab b.length cb] w0 (Outc Γ [] w0 (rW r)) := by
 refine goV [4] func161 ntmps161 results161 hp fun F hF => ?_
 refine WC.rs (aV (k:=WR.done (WC.rs (mV (k:=?_)))))
 obtain ⟨z1, hz2, h⟩ := bnd h
 refine ecV [] (caV call247) (fun w hp => pF secret hsecret hp hz2) ?_
 rintro Γ3 _ _ hl4 ⟨A7, c8, row9, rfl, rfl, hr10, _⟩
 refine cwV 10 [_] (aV (k:=WR.done (WC.rs (mV (k:=mV (k:=?_))))))
 have hc15 := hr10.capz
 refine seR 0 [_] fun Γ11 hl12 hr13 => ?_
 have hs14 := hr10.sl hl12 hr13
 refine bsV #[.slice A7 z1.length c8, .slice Ab b.length cb] 61 fun g16 => ?_
 have ho17 : Own (slT ar) Γ11 61 [(g16, .cells #[.slice A7 z1.length c8, .slice Ab b.length cb] 61 (0, 0))] (some ⟨g16, 0, none⟩) 2 [z1, b] := Own.of_blockL (T := (slT ar)) (ys := [z1, b]) [[.slice A7 z1.length c8], [.slice Ab b.length cb]] rfl (show 2 ≤ lim by decide) ⟨⟨A7, c8, rfl, hc15, hs14⟩, ⟨Ab, cb, rfl, hbc, (hb.mono (hl4.trans hl12))⟩, trivial⟩
 obtain ⟨z18, hz19, h⟩ := bnd h
 refine vqV (caV call248) (fun w hw => n8 (Γ := Gh.all w) (ho17.sl hw.sat.le_all (hw.ra 0 rfl)) ho17.capz (Sat.all w) hz19) (k:=aV (k:=WR.done (WC.rs (mV (k:=mV (k:=sV (oE rfl rfl rfl (by decide)) (k:=sV (cj underlying2 underlying205) (k:=?_))))))))
 obtain ⟨z20, hz21, h⟩ := bnd h
 refine ecV [] (caV call249) (fun w hp => j7 (w64 (ishr .u64 z18 32)) (dL _) hp hz21) ?_
 rintro Γ22 _ _ hl23 ⟨A26, c27, row28, rfl, rfl, hr29, _⟩
 refine cwV 19 [_, _, _] (mV (k:=sV u6 (k:=sV (cj underlying2 underlying205) (k:=?_))))
 obtain ⟨z30, hz31, h⟩ := bnd h
 refine ecV [] (caV call249) (fun w hp => j7 (w64 (iand .u64 z18 4294967295)) (dL _) hp hz31) ?_
 rintro Γ32 _ _ hl33 ⟨A36, c37, row38, rfl, rfl, hr39, _⟩
 refine cwV 23 [_, _, _, _] (mV (k:=?_))
 have hc44 := (hr29.mono hl33).capz
 refine seR 1 [_, _, _, _] fun Γ40 hl41 hr42 => ?_
 have hs43 := (hr29.mono hl33).sl hl41 hr42
 have hc49 := (hr39.mono hl41).capz
 refine seR 0 [_, _, _, _] fun Γ45 hl46 hr47 => ?_
 have hs48 := (hr39.mono hl41).sl hl46 hr47
 refine bsV #[.slice A7 z1.length c8, .slice A26 z20.length c27, .slice A36 z30.length c37, .slice A7 z1.length c8] 61 fun g50 => ?_
 have ho51 : Own (slT ar) Γ45 61 [(g50, .cells #[.slice A7 z1.length c8, .slice A26 z20.length c27, .slice A36 z30.length c37, .slice A7 z1.length c8] 61 (0, 0))] (some ⟨g50, 0, none⟩) 4 [z1, z20, z30, z1] := Own.of_blockL (T := (slT ar)) (ys := [z1, z20, z30, z1]) [[.slice A7 z1.length c8], [.slice A26 z20.length c27], [.slice A36 z30.length c37], [.slice A7 z1.length c8]] rfl (show 4 ≤ lim by decide) ⟨⟨A7, c8, rfl, hc15, (hs14.mono (((hl23.trans hl33).trans hl41).trans hl46))⟩, ⟨A26, c27, rfl, hc44, (hs43.mono hl46)⟩, ⟨A36, c37, rfl, hc49, hs48⟩, ⟨A7, c8, rfl, hc15, (hs14.mono (((hl23.trans hl33).trans hl41).trans hl46))⟩, trivial⟩
 obtain ⟨z52, hz53, h⟩ := bnd h
 refine vqV (caV call248) (fun w hw => n8 (Γ := Gh.all w) (ho51.sl hw.sat.le_all (hw.ra 0 rfl)) ho51.capz (Sat.all w) hz53) (k:=aV (k:=WR.done (WC.rs ?_)))
 refine alV zeroValue384 fun g54 => ?_
 have ho55 : Own ar Γ45 384 [(g54, .cells #[.int .u8 0, .int .u8 0, .int .u8 0, .int .u8 0, .int .u8 0, .int .u8 0, .int .u8 0, .int .u8 0] 384 (0, 0))] (some ⟨g54, 0, none⟩) 8 (List.replicate 8 (b8 0)) := sa (T := ar) 8 [.int .u8 0] (b8 0) rfl (by show [Value.int .u8 0] = [Value.int .u8 _]; rw [fS (by decide)]) (by decide)
 refine WR.done (WC.seq (WC.rs (mV (k:=WR.done (WC.block ?_)))))
 refine WC.forU h (fun (i61 : Nat) (x56 : List UInt8) σ w => ∃ (row57 : Rowb), slots σ [(6, .int .u64 z52), (7, (pq g54)), (27, ii (i61 : Int))] ∧ CC F Γ45 [row57] w ∧ x56.length = 8 ∧ Own ar Γ45 384 row57 (some ⟨g54, 0, none⟩) 8 x56 ∧ True) ?_ ?_
 ·
  intro w hw
  exact ⟨[(g54, .cells #[.int .u8 0, .int .u8 0, .int .u8 0, .int .u8 0, .int .u8 0, .int .u8 0, .int .u8 0, .int .u8 0] 384 (0, 0))], slK, (hw.on [0]), List.length_replicate, ho55, trivial⟩
 rintro f60 i61 x56 σ w hi62 hlt63 hge64 ⟨row57, hsl, hw, hn59, ho58, -⟩
 refine slV hsl hw [_] ?_; clear hw hsl
 refine WC.rs (sV aI (k:=WR.done (WC.seq ?_)))
 refine coV (fun hb65 => ?_) (fun hb65 => ?_)
 ·
  have hl66 := ilt hb65
  have h := hlt63 hl66
  refine WC.skip (wc_ (WC.seq (WC.block (WC.rs (mV (k:=aV (k:=WR.done ?_)))))))
  refine WC.region ?_
  refine mV (k:=mV (k:=mV (k:=sV iQ (k:=sV eI (k:=?_)))))
  obtain ⟨hk67, h⟩ := ah h
  refine sV (oE rfl rfl rfl hk67) (k:=sV (cj underlying5 underlying205) (k:=sV (xh (i := i61) underlying384 sizeOf5 rfl rfl rfl hl66) (k:=?_)))
  refine kf (T := ar) (q := i61) (v := .int .u8 (wu8 (ishr .u64 z52 (w64 (56 - (w64 (8 * (i61 : Int)))))))) (y := (b8 (wu8 (ishr .u64 z52 (w64 (56 - (w64 (8 * (i61 : Int))))))))) rfl rfl rfl rfl (by kernel_rfl) sizeOf5 (by exact (by show [Value.int .u8 (wu8 (ishr .u64 z52 (w64 (56 - (w64 (8 * (i61 : Int)))))))] = [Value.int .u8 _]; rw [fS (pp _)])) (i := 0) rfl ho58 (ltq hl66 hn59.symm) ?_
  intro row68 ho69
  refine WR.nil ?_
  change WC _ _ _ _ _ _
  refine WC.region ?_
  refine sV (aK rfl rfl rfl (kD hl66 (by decide))) (k:=mV (k:=?_))
  refine WR.nil ?_
  intro w hw
  exact ⟨hl66, (List.set x56 i61 (b8 (wu8 (ishr .u64 z52 (w64 (56 - (w64 (8 * (i61 : Int))))))))), h, row68, slK, hw, (List.length_set.trans hn59), ho69, trivial⟩
 have h := hge64 (ige hb65)
 refine WC.exit ?_
 change WC _ _ _ _ _ _
 refine WC.rs (sV (xr underlying384 sizeOf5 rfl rfl) (k:=aV (k:=WR.done ?_)))
 refine WC.ret ?_
 rw [show Value.slice (some ⟨g54, 0, none⟩) (8) 8 = Value.slice (some ⟨g54, 0, none⟩) (x56.length) 8 from by first | (rw [hn59]; done) | (rw [hn59]; rfl)]
 intro w hw
 have hc74 := ho58.capz
 obtain ⟨Γ70, hw, hl71, hr72⟩ := hw.seal (i := 0) rfl; have hs73 := ho58.sl hl71 hr72
 obtain rfl := Option.some.inj h
 subst hF
 exact bO (is := []) (by kernel_rfl) hw rfl ⟨(some ⟨g54, 0, none⟩), 8, rfl, rfl, hc74, hs73, trivial⟩
abbrev sb (r : (List Span) × Int) (U : List Rowb) (Γ : Gh) (v : Value) : Prop := ∃ (A0 : Option Addr), ∃ (c0 : Nat), v = .tuple #[.slice A0 r.1.length c0, .int .i64 r.2] ∧ U = [] ∧ r.1.length ≤ c0 ∧ Sl aW Γ A0 r.1 ∧ I64 r.2 ∧ True
theorem rn (secret : ByteArray) (hsecret : secret.size ≤ lim) (group : Int) (hgroup : I64 group) {Ab : Option Addr} {cb : Nat} {b : List UInt8} (hb : Sl ar Γ Ab b) (hbc : b.length ≤ cb) (hp : Pre [] Γ w0) {r : (List Span) × Int} (h : eL secret group b = some r) : Calls Tryz.prog 73 #[.string secret, ii group, .slice Ab b.length cb] w0 (Outc Γ [] w0 (sb r)) := by
 refine goV [6, 7] func73 ntmps73 results73 hp fun F hF => ?_
 refine WC.rs (aV (k:=aV (k:=WR.done (WC.seq (WC.rs (mV (k:=mV (k:=?_))))))))
 obtain ⟨z1, hz2, h⟩ := bnd h
 refine vqV (caV call158) (fun w hw => sX (Γ := Gh.all w) secret hsecret group hgroup (Sat.all w) hz2) (k:=sV dJ (k:=WR.done ?_))
 refine ciV h (fun hb3 h => ?_) (fun hb3 h => ?_)
 ·
  refine WC.rs (aV (k:=aV (k:=WR.done ?_)))
  exact WC.ret fun w hw => re_ r [] h hF hw ⟨none, 0, rfl, rfl, (Nat.zero_le 0), (Sl.nil aW _ none), iV, trivial⟩
 refine WC.skip (wc_ (WC.seq (WC.rs (mV (k:=sV (ai rfl underlying61) (k:=sV dl (k:=WR.done ?_)))))))
 refine ciV h (fun hb4 h => ?_) (fun hb4 h => ?_)
 ·
  refine WC.rs (aV (k:=aV (k:=WR.done ?_)))
  exact WC.ret fun w hw => re_ r [] h hF hw ⟨none, 0, rfl, rfl, (Nat.zero_le 0), (Sl.nil aW _ none), iV, trivial⟩
 refine WC.skip (wc_ (WC.seq (WC.rs (mV (k:=sV (ai rfl underlying61) (k:=sV aI (k:=mV (k:=?_))))))))
 refine vG0 (h:=fun hg5 => moV) (k:=?_)
 obtain ⟨hk7, h⟩ := ah h
 refine vG0 (h:=fun hg6 => bB (i := 0) underlying61 sizeOf5 rfl (grV hg6) rfl (of_decide_eq_true (bK hk7 hg6)) (hb.some_ (of_decide_eq_true (bK hk7 hg6)))) (k:=vG0 (h:=fun hg8 => q_ld (c := 0) (v := .int .u8 (((gt b 0).toNat : Nat) : Int)) (hb.byteT_at (of_decide_eq_true (bK hk7 hg8))).2 rfl isAgg5 (grV hg8) rfl) (k:=vG0 (h:=fun hg9 => ci rfl (grV hg9)) (k:=sV pkO (k:=WR.done ?_))))
 refine ciV h (fun hb10 h => ?_) (fun hb10 h => ?_)
 ·
  refine WC.rs (aV (k:=aV (k:=WR.done ?_)))
  exact WC.ret fun w hw => re_ r [] h hF hw ⟨none, 0, rfl, rfl, (Nat.zero_le 0), (Sl.nil aW _ none), iV, trivial⟩
 refine WC.skip (wc_ (WC.seq ?_))
 refine drV ?_
 refine zV moV (k:=zV moV (k:=zV (ai rfl underlying61) (k:=zV eI (k:=?_))))
 obtain ⟨hk11, h⟩ := ah h
 refine zV (iA (c := cb) (hi := (w64 ((b.length : Int) - 8)).toNat) (xs := b) underlying61 sizeOf5 rfl rfl (dp rfl hk11) (aY hk11) hbc) (k:=zV moV (k:=zV moV (k:=zV (ai rfl underlying61) (k:=zV eI (k:=zV (ji (c := cb) (lo := (w64 ((b.length : Int) - 8)).toNat) (xs := b) underlying61 sizeOf5 rfl rfl (dp rfl hk11) (aY hk11)) (k:=zV aoV (k:=zV aoV (k:=?_))))))))
 refine WQ.nil ?_
 change WC _ _ _ _ _ _
 refine WC.rs (mV (k:=?_))
 obtain ⟨z12, hz13, h⟩ := bnd h
 refine vqV (caV call159) (fun w hw => kl (Γ := Gh.all w) ((hb.cut_to (hi := (w64 ((b.length : Int) - 8)).toNat) (aY hk11)).mono hw.sat.le_all) (eY hbc ((w64 ((b.length : Int) - 8)).toNat)) 1 iV (Sat.all w) hz13) (k:=mV (k:=sV exV (k:=sV exV (k:=sV exV (k:=aV (k:=aV (k:=aV (k:=?_))))))))
 refine WR.done (WC.seq (WC.rs (mV (k:=sV ci (k:=WR.done ?_)))))
 refine ciV h (fun hb14 h => ?_) (fun hb14 h => ?_)
 ·
  refine WC.rs (aV (k:=aV (k:=WR.done ?_)))
  exact WC.ret fun w hw => re_ r [] h hF hw ⟨none, 0, rfl, rfl, (Nat.zero_le 0), (Sl.nil aW _ none), iV, trivial⟩
 refine WC.skip (wc_ (WC.rs (mV (k:=mV (k:=?_)))))
 obtain ⟨hk15, h⟩ := ah h
 refine sV (ji (c := cb) (lo := z12.2.1.toNat) (xs := (List.take ((w64 ((b.length : Int) - 8)).toNat) b)) underlying61 sizeOf5 rfl rfl (dp rfl hk15) (aY hk15)) (k:=?_)
 obtain ⟨z16, hz17, h⟩ := bnd h
 refine ecV [] (caV call160) (fun w hp => sO ((hb.cut_to (hi := (w64 ((b.length : Int) - 8)).toNat) (aY hk11)).cut_from (c := cb) (lo := z12.2.1.toNat) (aY hk15) (eY hbc ((w64 ((b.length : Int) - 8)).toNat))) (xO (eY hbc ((w64 ((b.length : Int) - 8)).toNat)) z12.2.1.toNat) hp hz17) ?_
 rintro Γ18 _ _ hl19 ⟨A22, c23, rfl, rfl, hc25, hr24, hr26, _⟩
 refine cwV 52 [] (mV (k:=sV exV (k:=sV exV (k:=aV (k:=aV (k:=WR.done (WC.seq ?_)))))))
 refine WC.block (WC.rs (mV (k:=sV ci (k:=aV (k:=WR.done ?_)))))
 refine ciV h (fun hb27 h => ?_) (fun hb27 h => ?_)
 ·
  refine WC.rs (aV (k:=aV (k:=WR.done ?_)))
  exact WC.ret fun w hw => re_ r [] h hF hw ⟨none, 0, rfl, rfl, (Nat.zero_le 0), (Sl.nil aW _ none), iV, trivial⟩
 refine WC.rs (mV (k:=mV (k:=sV ci (k:=aV (k:=WR.done ?_)))))
 refine ciV h (fun hb28 h => ?_) (fun hb28 h => ?_)
 ·
  refine WC.rs (aV (k:=aV (k:=WR.done ?_)))
  exact WC.ret fun w hw => re_ r [] h hF hw ⟨none, 0, rfl, rfl, (Nat.zero_le 0), (Sl.nil aW _ none), iV, trivial⟩
 refine WC.seq ?_
 refine leV fun h029 => ?_
 refine dM (CC F Γ18 []) (bk_ gR h029 .slnil) fun k => ?_
 change WH _ _ _ _ (CC F Γ18 []) _ 8 _ _
 refine hV 0 k (q:=moV) (k:=hV 1 k (q:=sT ((hb.mono hl19).cut_from (c := cb) (lo := (w64 ((b.length : Int) - 8)).toNat) (aY hk11) hbc) underlying61 underlying5 underlying9 rfl rfl) (k:=hV 2 k (q:=moV) (k:=hV 3 k (q:=moV) (k:=wl_ 4 rfl ?_))))
 obtain ⟨z30, hz31, h⟩ := bnd h
 refine ecV [] (caV call161) (fun w hp => sj secret hsecret ((hb.mono hl19).cut_to (hi := (w64 ((b.length : Int) - 8)).toNat) (aY hk11)) (eY hbc ((w64 ((b.length : Int) - 8)).toNat)) hp hz31) ?_
 rintro Γ32 _ _ hl33 ⟨A36, c37, rfl, rfl, hc39, hr38, _⟩
 refine cwV 67 [] ?_
 refine WR.nil (nxV (bk_ hl33 h029 .slnil) fun k => ?_)
 refine wl_ 5 rfl (sV (sT hr38 underlying61 underlying5 underlying9 rfl rfl) (k:=?_))
 refine WR.nil (nxV (bk_ hl33 h029 .slnil) fun k => ?_)
 refine hV 6 k (q:=sU) (k:=hV 7 k (q:=aoV) (k:=?_))
 refine WH.done (by kernel_rfl) ?_
 change WC _ _ _ _ _ _
 refine ciV h (fun hb40 h => ?_) (fun hb40 h => ?_)
 ·
  refine WC.rs (aV (k:=aV (k:=WR.done ?_)))
  exact WC.ret fun w hw => re_ r [] h hF hw ⟨none, 0, rfl, rfl, (Nat.zero_le 0), (Sl.nil aW _ none), iV, trivial⟩
 refine WC.skip (wc_ (WC.rs (mV (k:=aV (k:=aV (k:=WR.done ?_))))))
 exact WC.ret fun w hw => re_ r [] h hF hw ⟨A22, c23, rfl, rfl, hc25, (hr24.mono hl33), iV, trivial⟩
abbrev gI (r : List Int) (U : List Rowb) (Γ : Gh) (v : Value) : Prop := ∃ (A0 : Option Addr), ∃ (c0 : Nat), ∃ (row0 : Rowb), v = .slice A0 r.length c0 ∧ U = [row0] ∧ Own intT Γ 2 row0 A0 c0 r ∧ True
theorem gL {As_ : Option Addr} {cs_ : Nat} {s_ : List Int} (hs_ : Sl intT Γ As_ s_) (hs_c : s_.length ≤ cs_) (hp : Pre [] Γ w0) {r : List Int} (h : e8 s_ = some r) : Calls Tryz.prog 99 #[.slice As_ s_.length cs_] w0 (Outc Γ [] w0 (gI r)) := by
 refine goV [2] func99 ntmps99 results99 hp fun F hF => ?_
 refine WC.rs (aV (k:=WR.done (WC.seq (WC.rs (mV (k:=sV (ig underlying44 rfl rfl rfl) (k:=WR.done ?_)))))))
 refine WC.cnil h (by kernel_rfl) (fun hb => hs_.none_nil hb) (fun hb1 h => ?_) (fun hb1 h => ?_)
 ·
  refine WC.rs (aV (k:=WR.done ?_))
  refine WC.ret ?_
  intro w hw
  have hw := hw.pad
  exact re_ r [0] h hF hw ⟨none, 0, [], rfl, rfl, (Own.nil intT _ 2), trivial⟩
 refine WC.skip (wc_ (WC.rs ?_))
 refine bsV #[] 2 fun g2 => ?_
 refine mV (k:=?_)
 have ho3 : Own intT Γ 2 [(g2, .cells #[] 2 (0, 0))] (some ⟨g2, 0, none⟩) 0 ([] : List Int) := Own.of_blockL (T := intT) (ys := ([] : List Int)) [] rfl (show 0 ≤ lim by decide) (show True from trivial)
 obtain ⟨hk4, h⟩ := ah h
 refine apV 0 s_ ma ho3 (of_decide_eq_true hk4) (fun w hw => jo hs_ hw) ?_
 intro row5 A6 c7 ho8
 refine aV (k:=WR.done ?_)
 exact WC.ret fun w hw => re_ r [0] h hF hw ⟨A6, c7, row5, rfl, rfl, ho8, trivial⟩
abbrev jy (gq : Nat) (eq : Nat × Nat) (rowq : Rowb) (r : List Int) (U : List Rowb) (Γ : Gh) (v : Value) : Prop := ∃ (A0 : Option Addr), ∃ (c0 : Nat), ∃ (row0 : Rowb), v = .slice A0 r.length c0 ∧ U = [rowq, row0] ∧ Own intT Γ 2 row0 A0 c0 r ∧ True
theorem ju {gq : Nat} {eq : Nat × Nat} {rowq : Rowb} {q : ay} (hq : ay.ob eq Γ gq rowq q) (hp : Pre [rowq] Γ w0) {r : List Int} (h : dG q = some r) : Calls Tryz.prog 47 #[(pq gq)] w0 (Outc Γ [rowq] w0 (jy gq eq rowq r)) := by
 refine goV [2] func47 ntmps47 results47 hp fun F hF => ?_
 refine WC.rs (aV (k:=WR.done (WC.rs (mV (k:=sV nlV (k:=sV (q_fl 7 fp) (k:=?_)))))))
 obtain ⟨A2_1, c2_1, A5_1, c5_1, g6_1, r6_1, A7_1, c7_1, A8_1, A9_1, c9_1, r9_1, m11_1, r11_1, A12_1, c12_1, hrow_1, ho0_1, ho1_1, ho2_1, ho3_1, ho4_1, ho5_1, ho6_1, ho7_1, ho8_1, ho9_1, ho10_1, ho11_1, ho12_1, ho13_1, ho14_1, ho15_1, ho16_1, -⟩ := id hq
 refine ufR 0 hrow_1 [_, _, _, _] ?_
 refine sV (ldV 0 isAgg44) (k:=?_)
 obtain ⟨z2, hz3, h⟩ := bnd h
 refine ecV [] (caV call99) (fun w hp => gL ho10_1 ho9_1 hp hz3) ?_
 rintro Γ4 _ _ hl5 ⟨A8, c9, row10, rfl, rfl, hr11, _⟩
 refine cwV 7 [_, _, _, _, _] (aV (k:=WR.done ?_))
 refine WC.ret ?_
 intro w hw
 have hw := hw.fold (is := [1, 1, 1, 1]) rfl hrow_1
 exact re_ r [0, 0] h hF hw ⟨A8, c9, row10, rfl, rfl, hr11, trivial⟩
theorem pC {Av_ : Option Addr} {cv_ : Nat} {v_ : List Int} (hv_ : Sl intT Γ Av_ v_) (hv_c : v_.length ≤ cv_) (d : Dot) (hd : Dot.fits Γ  d) (hs : Sat Γ w0) {r : Bool} (h : dD v_ d = some r) : CQ Tryz.prog 154 #[.slice Av_ v_.length cv_, .agg (Dot.cs d).toArray] w0 (.bool r) := by
 refine goQ [4] func154 ntmps154 results154 hs fun F hF => ?_
 refine WC.rs ?_
 refine bxV (v := .agg (Dot.cs d).toArray) fun g1 => ?_
 refine aV (k:=WR.done (WC.seq ?_))
 refine drV ?_
 refine zV (q_fl 0 iL) (k:=zV (ldV 0 isAgg3) (k:=zV bX (k:=zV moV (k:=wG1 (h:=fun hg2 => q_fl 0 iL) (k:=wG1 (h:=fun hg3 => ldV 0 isAgg3 (hx:=grV hg3)) (k:=wG1 (h:=fun hg4 => moV) (k:=wG1 (h:=fun hg5 => ai rfl underlying44 (grV hg5)) (k:=?_))))))))
 refine wG1 (h:=fun hg6 => dc rfl (grV hg6) (grV hg6)) (k:=zV pkA (k:=zV moV (k:=wG1 (h:=fun hg7 => q_fl 1 iO) (k:=wG1 (h:=fun hg8 => ldV 0 isAgg2 (hx:=grV hg8)) (k:=wG1 (h:=fun hg9 => bX rfl (grV hg9)) (k:=zV pkA (k:=zV moV (k:=?_))))))))
 refine wG1 (h:=fun hg10 => q_fl 1 iO) (k:=wG1 (h:=fun hg11 => ldV 0 isAgg2 (hx:=grV hg11)) (k:=wG1 (h:=fun hg12 => moV) (k:=wG1 (h:=fun hg13 => q_fl 0 iL) (k:=wG1 (h:=fun hg14 => ldV 0 isAgg3 (hx:=grV hg14)) (k:=wG1 (h:=fun hg15 => eI rfl (grV hg15)) (k:=?_))))))
 obtain ⟨hk17, h⟩ := ah h
 refine wG1 (h:=fun hg16 => q_ix underlying44 sizeOf2 rfl (grV hg16) (grV hg16) (bK hk17 hg16) (hv_.some_ (cw (bK hk17 hg16)))) (k:=wG1 (h:=fun hg18 => q_ld (c := 0) (v := ii (gt v_ ((w64 (d.s - 1)).toNat))) (hv_.intT_at (cw (bK hk17 hg18))).2 rfl isAgg2 (grV hg18) rfl) (k:=wG1 (h:=fun hg19 => dc rfl (grV hg19) (grV hg19)) (k:=zV pkA (k:=zV aoV (k:=?_)))))
 refine WQ.nil ?_
 change WC _ _ _ _ _ _
 exact WC.ret fun w hw => rq_ r h hF hw
theorem qP {Av_ : Option Addr} {cv_ : Nat} {v_ : List Int} (hv_ : Sl intT Γ Av_ v_) (hv_c : v_.length ≤ cv_) {Al : Option Addr} {cl : Nat} {l : List Span} (hl : Sl aW Γ Al l) (hlc : l.length ≤ cl) (hs : Sat Γ w0) {r : Bool} (h : ec v_ l = some r) : CQ Tryz.prog 74 #[.slice Av_ v_.length cv_, .slice Al l.length cl] w0 (.bool r) := by
 refine goQ [4] func74 ntmps74 results74 hs fun F hF => ?_
 refine WC.rs (aV (k:=WR.done (WC.seq (WC.rs (mV (k:=sV (ai rfl underlying54) (k:=mV (k:=?_))))))))
 refine WR.done (WC.block ?_)
 refine WC.forI h (fun (i2 : Nat) (s : Unit) σ w => match s with | () => slots σ [(0, .slice Av_ v_.length cv_), (7, .slice Al l.length cl), (8, ii (l.length : Int)), (9, ii (i2 : Int))] ∧ CC F Γ [] w ∧ True) ?_ ?_
 ·
  intro w hw
  exact ⟨slK, hw, trivial⟩
 rintro f1 i2 ⟨⟩ σ w hi3 hlt4 hge5 ⟨hsl, hw, -⟩
 refine slV hsl hw [] ?_; clear hw hsl
 refine WC.rs (sV aI (k:=WR.done (WC.seq ?_)))
 refine coV (fun hb6 => ?_) (fun hb6 => ?_)
 ·
  have hl7 := ilt hb6
  have h := hlt4 hl7
  refine WC.skip (wc_ (WC.seq (WC.block (WC.rs (sV (bB (i := i2) underlying54 sizeOf131 rfl rfl rfl hl7 (hl.some_ hl7)) (k:=sV (tT (c := 0) (vs := (Span.cs (gt l i2))) (hl.spanT_at hl7).2 rfl isAgg131 sizeOf131 rfl rfl rfl) (k:=?_)))))))
  refine alV zeroValue131 fun g8 => ?_
  refine stV 0 (.agg (Span.cs (gt l i2)).toArray) (Span.cs (gt l i2)).toArray sizeOf131 (k:=WR.done (WC.rs (mV (k:=sV (q_fl 0 bU) (k:=sV (ldV 0 isAgg3) (k:=sV (q_fl 2 cS) (k:=sV (ldV 0 isAgg2) (k:=?_))))))))
  refine sV (bh (v := .agg #[ii (gt l i2).s, ii (gt l i2).t]) rfl (jB rfl rfl) (fun w => by kernel_rfl)) (k:=?_)
  obtain ⟨z9, hz10, h⟩ := bnd h
  refine vqV (caV call154) (fun w hw => pC (Γ := Gh.all w) (hv_.mono hw.sat.le_all) hv_c (⟨(gt l i2).s, (gt l i2).t⟩ : Dot) ⟨(hl.spanT_at hl7).1.1, (hl.spanT_at hl7).1.2.2⟩ (Sat.all w) hz10) (k:=sV dJ (k:=WR.done ?_))
  refine ciV h (fun hb11 h => ?_) (fun hb11 h => ?_)
  ·
   refine WC.rs (aV (k:=WR.done ?_))
   exact WC.ret fun w hw => rq_ r h hF hw
  refine WC.skip (wc_ ?_)
  refine WC.region ?_
  refine sV (aK rfl rfl rfl (bx hl7 hl.le)) (k:=mV (k:=?_))
  refine WR.nil ?_
  intro w hw
  exact ⟨hl7, (), h, slK, (hw.on []), trivial⟩
 have h := hge5 (ige hb6)
 refine WC.exit ?_
 change WC _ _ _ _ _ _
 refine WC.rs (aV (k:=WR.done ?_))
 exact WC.ret fun w hw => rq_ r h hF hw
abbrev nB (gs_ : Nat) (es_ : Nat × Nat) (rows_ : Rowb) (r : (List Span) × Int) (U : List Rowb) (Γ : Gh) (v : Value) : Prop := ∃ (A0 : Option Addr), ∃ (c0 : Nat), v = .tuple #[.slice A0 r.1.length c0, .int .i64 r.2] ∧ U = [rows_] ∧ r.1.length ≤ c0 ∧ Sl aW Γ A0 r.1 ∧ I64 r.2 ∧ True
theorem js {gs_ : Nat} {es_ : Nat × Nat} {rows_ : Rowb} {s_ : au} (hs_ : au.ob es_ Γ gs_ rows_ s_) {Atoken : Option Addr} {ctoken : Nat} {token : List UInt8} (htoken : Sl ar Γ Atoken token) (htokenc : token.length ≤ ctoken) (key : ByteArray) (hkey : key.size ≤ lim) (hp : Pre [rows_] Γ w0) {r : (List Span) × Int} (h : cQ s_ token key = some r) : Calls Tryz.prog 35 #[(pq gs_), .slice Atoken token.length ctoken, .string key] w0 (Outc Γ [rows_] w0 (nB gs_ es_ rows_ r)) := by
 refine goV [6, 7] func35 ntmps35 results35 hp fun F hF => ?_
 refine WC.rs (aV (k:=aV (k:=WR.done (WC.seq (WC.rs (mV (k:=sV (aQ rfl underlying9) (k:=?_))))))))
 refine sV aI (k:=mV (k:=vG0 (h:=fun hg1 => moV) (k:=vG0 (h:=fun hg2 => aQ rfl underlying9 (grV hg2)) (k:=vG0 (h:=fun hg3 => bJ rfl (grV hg3)) (k:=sV pkO (k:=WR.done ?_))))))
 refine ciV h (fun hb4 h => ?_) (fun hb4 h => ?_)
 ·
  refine WC.rs (aV (k:=aV (k:=WR.done ?_)))
  exact WC.ret fun w hw => re_ r [0] h hF hw ⟨none, 0, rfl, rfl, (Nat.zero_le 0), (Sl.nil aW _ none), iV, trivial⟩
 refine WC.skip (wc_ ?_)
 refine WC.cut (fun σ w => ∃ (past_7 : List Span), ∃ (e_12 : Int), ∃ (Γ5 : Gh), ∃ (A8 : Option Addr), ∃ (c9 : Nat), du s_ past_7 e_12 = some r ∧ slots σ [(0, (pq gs_)), (8, .slice A8 past_7.length c9), (9, ii e_12)] ∧ CC F Γ5 [rows_] w ∧ Gh.le Γ Γ5 ∧ past_7.length ≤ c9 ∧ Sl aW Γ5 A8 past_7 ∧ I64 e_12 ∧ True) ?_ ?_
 ·
  obtain ⟨A1_14, c1_14, A3_14, c3_14, A18_14, c18_14, g19_14, r19_14, y20_14, y27_14, hrow_14, ho0_14, ho1_14, ho2_14, ho3_14, ho4_14, ho5_14, ho6_14, ho7_14, ho8_14, ho9_14, ho10_14, ho11_14, ho12_14, ho13_14, ho14_14, ho15_14, ho16_14, ho17_14, ho18_14, ho19_14, ho20_14, ho21_14, ho22_14, ho23_14, -⟩ := id hs_
  refine ufC 0 hrow_14 [_, _] ?_
  refine leV fun h015 => ?_
  refine dM (CC F Γ [[(gs_, .cells #[ii s_.c_sites, .slice A1_14 s_.c_links.length c1_14, ii s_.c_nodes, .slice A3_14 s_.c_members.length c3_14, ii s_.c_n, ii s_.c_r, ii s_.c_w, ii s_.c_group, .string s_.c_secret, ii s_.c_room, ii s_.c_seg, ii s_.c_cap, ii s_.c_pend, ii s_.c_wait, ii s_.c_timeout, ii s_.c_hintAfter, ii s_.c_base, ii s_.self, .slice A18_14 s_.links.length c18_14, (pq g19_14), y20_14, ii s_.ids, .pointer none, .pointer none, .slice none 0 0, .slice none 0 0, .slice none 0 0, y27_14, .pointer none, .pointer none, .slice none 0 0, .slice none 0 0] es_.1 (0, 0))], r19_14]) (bo_ [0, 0] gR h015) fun k => ?_
  change WH _ _ _ _ (CC F Γ [_, _]) _ 17 _ _
  refine hV 0 k (q:=moV) (k:=hV 1 k (q:=nlV) (k:=hV 2 k (q:=q_fl 0 p7) (k:=hV 3 k (q:=q_fl 8 jJ) (k:=hV 4 k (q:=ldV 0 isAgg9) (k:=hV 5 k (q:=moV) (k:=hV 6 k (q:=nlV) (k:=hV 7 k (q:=q_fl 0 p7) (k:=?_))))))))
  refine hV 8 k (q:=q_fl 7 lI) (k:=hV 9 k (q:=ldV 0 isAgg2) (k:=hV 10 k (q:=moV) (k:=wl_ 11 rfl ?_)))
  obtain ⟨z16, hz17, h⟩ := bnd h
  refine ecV [] (caV call73) (fun w hp => rn s_.c_secret ho10_14 s_.c_group ho9_14 htoken htokenc hp hz17) ?_
  rintro Γ18 _ _ hl19 ⟨A22, c23, rfl, rfl, hc25, hr24, hr26, _⟩
  refine cwV 31 [_, _] ?_
  refine WR.nil (nxV (bo_ [0, 0] hl19 h015) fun k => ?_)
  refine hV 12 k (q:=moV) (k:=hV 13 k (q:=exV) (k:=hV 14 k (q:=exV) (k:=hV 15 k (q:=aoV) (k:=hV 16 k (q:=aoV) (k:=?_)))))
  refine WH.done (by kernel_rfl) ?_
  intro w hw
  have hw := hw.fold (is := [0, 0]) rfl hrow_14
  exact ⟨z16.1, z16.2, Γ18, A22, c23, h, slK, hw, hl19, hc25, hr24, hr26, trivial⟩
 rintro σ w ⟨past_7, e_12, Γ5, A8, c9, h, hsl, hw, hl6, hc11, hs10, hr13, -⟩
 refine slV hsl hw [_] ?_; clear hw hsl
 refine WC.seq (WC.rs (mV (k:=sV ci (k:=WR.done ?_))))
 refine ciV h (fun hb28 h => ?_) (fun hb28 h => ?_)
 ·
  refine WC.rs (mV (k:=aV (k:=aV (k:=WR.done ?_))))
  exact WC.ret fun w hw => re_ r [0] h hF hw ⟨none, 0, rfl, rfl, (Nat.zero_le 0), (Sl.nil aW _ none), hr13, trivial⟩
 refine WC.skip (wc_ (WC.seq (WC.rs (mV (k:=sV nlV (k:=sV (q_fl 19 ly) (k:=?_)))))))
 obtain ⟨A1_29, c1_29, A3_29, c3_29, A18_29, c18_29, g19_29, r19_29, y20_29, y27_29, hrow_29, ho0_29, ho1_29, ho2_29, ho3_29, ho4_29, ho5_29, ho6_29, ho7_29, ho8_29, ho9_29, ho10_29, ho11_29, ho12_29, ho13_29, ho14_29, ho15_29, ho16_29, ho17_29, ho18_29, ho19_29, ho20_29, ho21_29, ho22_29, ho23_29, -⟩ := (hs_.mono hl6)
 refine ufR 0 hrow_29 [_, _] ?_
 refine sV (ldV 0 isAgg86) (k:=?_)
 obtain ⟨z30, hz31, h⟩ := bnd h
 refine ecV [1] (caV call47) (fun w hp => ju ho22_29 hp hz31) ?_
 rintro Γ32 _ _ hl33 ⟨A36, c37, row38, rfl, rfl, hr39, _⟩
 refine cwV 41 [_, _, _] (mV (k:=?_))
 obtain ⟨z40, hz41, h⟩ := bnd h
 refine vqV (caV call74) (fun w hw => qP (Γ := Gh.all w) (hr39.sl hw.sat.le_all (hw.ra 1 rfl)) hr39.capz ((hs10.mono hl33).mono hw.sat.le_all) hc11 (Sat.all w) hz41) (k:=sV dJ (k:=WR.done ?_))
 refine ciV h (fun hb42 h => ?_) (fun hb42 h => ?_)
 ·
  refine WC.rs (aV (k:=aV (k:=WR.done ?_)))
  refine WC.ret ?_
  intro w hw
  have hw := hw.fold (is := [2, 0]) rfl hrow_29
  exact re_ r [0] h hF hw ⟨none, 0, rfl, rfl, (Nat.zero_le 0), (Sl.nil aW _ none), iV, trivial⟩
 refine WC.skip (wc_ (WC.seq ?_))
 refine drV ?_
 refine zV moV (k:=zV nlV (k:=zV (q_fl 25 sy) (k:=zV (ldV 2 isAgg90) (k:=zV (ai (n := 0) rfl underlying90) (k:=zV moV (k:=zV nlV (k:=zV (q_fl 24 sA) (k:=?_))))))))
 refine zV (ldV 2 isAgg89) (k:=zV (ai (n := 0) rfl underlying89) (k:=zV cK (k:=zV aoV (k:=?_))))
 refine WQ.nil ?_
 change WC _ _ _ _ _ _
 refine foC [2, 0] hrow_29 [_, _] ?_
 refine WC.cut (fun σ w => gH s_ past_7  = some r ∧ slots σ [(0, (pq gs_)), (8, .slice A8 past_7.length c9), (10, ii (w64 (0 + 0)))] ∧ CC F Γ32 [rows_] w ∧ True) ?_ ?_
 ·
  refine WC.rs (mV (k:=sV nlV (k:=sV (q_fl 23 vW) (k:=?_))))
  obtain ⟨A1_45, c1_45, A3_45, c3_45, A18_45, c18_45, g19_45, r19_45, y20_45, y27_45, hrow_45, ho0_45, ho1_45, ho2_45, ho3_45, ho4_45, ho5_45, ho6_45, ho7_45, ho8_45, ho9_45, ho10_45, ho11_45, ho12_45, ho13_45, ho14_45, ho15_45, ho16_45, ho17_45, ho18_45, ho19_45, ho20_45, ho21_45, ho22_45, ho23_45, -⟩ := (hs_.mono (hl6.trans hl33))
  refine ufR 0 hrow_45 [_, _, _] ?_
  refine sV (ldV 0 isAgg88) (k:=sV (uG (a := none) underlying88 rfl rfl rfl) (k:=WR.done ?_))
  refine WC.cfk (b := false) (by kernel_rfl) rfl ?_
  refine WC.skip ?_
  intro w hw
  have hw := hw.fold (is := [0, 0]) rfl hrow_45
  exact ⟨h, slK, (hw.on [0]), trivial⟩
 rintro σ w ⟨h, hsl, hw, -⟩
 refine slV hsl hw [_] ?_; clear hw hsl
 refine WC.seq (WC.rs (mV (k:=mV (k:=sV nlV (k:=sV (q_fl 0 p7) (k:=sV (q_fl 13 pO) (k:=?_)))))))
 obtain ⟨A1_47, c1_47, A3_47, c3_47, A18_47, c18_47, g19_47, r19_47, y20_47, y27_47, hrow_47, ho0_47, ho1_47, ho2_47, ho3_47, ho4_47, ho5_47, ho6_47, ho7_47, ho8_47, ho9_47, ho10_47, ho11_47, ho12_47, ho13_47, ho14_47, ho15_47, ho16_47, ho17_47, ho18_47, ho19_47, ho20_47, ho21_47, ho22_47, ho23_47, -⟩ := (hs_.mono (hl6.trans hl33))
 refine ufR 0 hrow_47 [_, _] ?_
 refine sV (ldV 0 isAgg3) (k:=sV bX (k:=WR.done ?_))
 refine ciV h (fun hb48 h => ?_) (fun hb48 h => ?_)
 ·
  refine WC.rs (aV (k:=aV (k:=WR.done ?_)))
  refine WC.ret ?_
  intro w hw
  have hw := hw.fold (is := [0, 0]) rfl hrow_47
  exact re_ r [0] h hF hw ⟨none, 0, rfl, rfl, (Nat.zero_le 0), (Sl.nil aW _ none), iV, trivial⟩
 refine WC.skip (wc_ (WC.rs (mV (k:=aV (k:=aV (k:=WR.done ?_))))))
 refine WC.ret ?_
 intro w hw
 have hw := hw.fold (is := [0, 0]) rfl hrow_47
 exact re_ r [0] h hF hw ⟨A8, c9, rfl, rfl, hc11, (hs10.mono hl33), iV, trivial⟩
abbrev nD (gs_ : Nat) (es_ : Nat × Nat) (rows_ : Rowb) (r : (List bu) × Int) (U : List Rowb) (Γ : Gh) (v : Value) : Prop := ∃ (A0 : Option Addr), ∃ (c0 : Nat), ∃ (row0 : Rowb), v = .tuple #[.slice A0 r.1.length c0, .int .i64 r.2] ∧ U = [rows_, row0] ∧ Own iy Γ 47 row0 A0 c0 r.1 ∧ I64 r.2 ∧ True
theorem nC {gs_ : Nat} {es_ : Nat × Nat} {rows_ : Rowb} {s_ : au} (hs_ : au.ob es_ Γ gs_ rows_ s_) (op : Int) (hop : I64 op) {Atoken : Option Addr} {ctoken : Nat} {token : List UInt8} (htoken : Sl ar Γ Atoken token) (htokenc : token.length ≤ ctoken) (key : ByteArray) (hkey : key.size ≤ lim) (hp : Pre [rows_] Γ w0) {r : (List bu) × Int} (h : eA s_ op token key = some r) : Calls Tryz.prog 22 #[(pq gs_), ii op, .slice Atoken token.length ctoken, .string key] w0 (Outc Γ [rows_] w0 (nD gs_ es_ rows_ r)) := by
 refine goV [8, 9] func22 ntmps22 results22 hp fun F hF => ?_
 refine WC.rs ?_
 refine bxV (v := (pq gs_)) fun g1 => ?_
 refine bxV (v := ii op) fun g2 => ?_
 refine bxV (v := .string key) fun g3 => ?_
 refine aV (k:=aV (k:=WR.done (WC.rs (sV (ldV 2 isAgg26) (k:=mV (k:=sV (ldV 0 isAgg9) (k:=?_)))))))
 obtain ⟨z4, hz5, h⟩ := bnd h
 refine ecV [3] (caV call35) (fun w hp => js hs_ htoken htokenc key hkey hp hz5) ?_
 rintro Γ6 _ _ hl7 ⟨A10, c11, rfl, rfl, hc13, hr12, hr14, _⟩
 refine cwV 16 [_, _, _, _] (mV (k:=sV exV (k:=sV exV (k:=?_))))
 refine alV zeroValue54 fun g15 => ?_
 refine stV 0 (.slice A10 z4.1.length c11) #[.slice A10 z4.1.length c11] sizeOf54 (k:=aV (k:=WR.done (WC.seq (WC.rs (mV (k:=sV ci (k:=WR.done ?_)))))))
 refine ciV h (fun hb16 h => ?_) (fun hb16 h => ?_)
 ·
  refine WC.rs (mV (k:=aV (k:=aV (k:=WR.done ?_))))
  refine WC.ret ?_
  intro w hw
  have hw := hw.pad
  exact re_ r [2, 0] h hF hw ⟨none, 0, [], rfl, rfl, (Own.nil iy _ 47), hr14, trivial⟩
 refine WC.skip (wc_ ?_)
 cases h
abbrev nH (gs_ : Nat) (es_ : Nat × Nat) (rows_ : Rowb) (r : (List bu) × Int) (U : List Rowb) (Γ : Gh) (v : Value) : Prop := ∃ (A0 : Option Addr), ∃ (c0 : Nat), ∃ (row0 : Rowb), v = .tuple #[.slice A0 r.1.length c0, .int .i64 r.2] ∧ U = [rows_, row0] ∧ Own iy Γ 47 row0 A0 c0 r.1 ∧ I64 r.2 ∧ True
theorem nJ {gs_ : Nat} {es_ : Nat × Nat} {rows_ : Rowb} {s_ : au} (hs_ : au.ob es_ Γ gs_ rows_ s_) (op : Int) (hop : I64 op) {Atoken : Option Addr} {ctoken : Nat} {token : List UInt8} (htoken : Sl ar Γ Atoken token) (htokenc : token.length ≤ ctoken) (key : ByteArray) (hkey : key.size ≤ lim) (val : ByteArray) (hval : val.size ≤ lim) (gone : Bool) (hp : Pre [rows_] Γ w0) {r : (List bu) × Int} (h : eC s_ op token key val gone = some r) : Calls Tryz.prog 13 #[(pq gs_), ii op, .slice Atoken token.length ctoken, .string key, .string val, .bool gone] w0 (Outc Γ [rows_] w0 (nH gs_ es_ rows_ r)) := by
 refine goV [12, 13] func13 ntmps13 results13 hp fun F hF => ?_
 refine WC.rs ?_
 refine bxV (v := (pq gs_)) fun g1 => ?_
 refine bxV (v := ii op) fun g2 => ?_
 refine bxV (v := .string key) fun g3 => ?_
 refine bxV (v := .string val) fun g4 => ?_
 refine bxV (v := .bool gone) fun g5 => ?_
 refine aV (k:=aV (k:=WR.done ?_))
 refine WC.cut (fun σ w => ∃ (x6 : ByteArray), dv s_ token key x6 = some r ∧ slots σ [(2, .slice Atoken token.length ctoken), (6, (pq g1)), (7, (pq g2)), (9, (pq g3)), (10, (pq g4)), (11, (pq g5))] ∧ CC F Γ [[(g5, .cells #[.bool gone] 4 (0, 0))], [(g4, .cells #[.string x6] 9 (0, 0))], [(g3, .cells #[.string key] 9 (0, 0))], [(g2, .cells #[ii op] 2 (0, 0))], [(g1, .cells #[(pq gs_)] 26 (0, 0))], rows_] w ∧ x6.size ≤ lim ∧ True) ?_ ?_
 ·
  refine WC.rs (sV (ldV 0 isAgg4) (k:=WR.done ?_))
  refine ciV h (fun hb8 h => ?_) (fun hb8 h => ?_)
  ·
   refine WC.region ?_
   refine stV 1 (.string ByteArray.empty) #[.string ByteArray.empty] sizeOf9 (k:=?_)
   refine WR.nil ?_
   intro w hw
   exact ⟨ByteArray.empty, h, slK, hw, (show (ByteArray.empty : ByteArray).size ≤ lim by decide), trivial⟩
  refine WC.skip ?_
  intro w hw
  exact ⟨val, h, slK, hw, hval, trivial⟩
 rintro σ w ⟨x6, h, hsl, hw, hr7, -⟩
 refine slV hsl hw [_, _, _, _, _, _] ?_; clear hw hsl
 refine WC.seq (WC.rs (sV (ldV 1 isAgg9) (k:=sV (aQ rfl underlying9) (k:=sV bJ (k:=WR.done ?_)))))
 refine ciV h (fun hb9 h => ?_) (fun hb9 h => ?_)
 ·
  refine WC.rs (aV (k:=aV (k:=WR.done ?_)))
  refine WC.ret ?_
  intro w hw
  have hw := hw.pad
  exact re_ r [6, 0] h hF hw ⟨none, 0, [], rfl, rfl, (Own.nil iy _ 47), iV, trivial⟩
 refine WC.skip (wc_ (WC.rs (sV (ldV 4 isAgg26) (k:=mV (k:=sV (ldV 2 isAgg9) (k:=?_))))))
 obtain ⟨z10, hz11, h⟩ := bnd h
 refine ecV [5] (caV call35) (fun w hp => js hs_ htoken htokenc key hkey hp hz11) ?_
 rintro Γ12 _ _ hl13 ⟨A16, c17, rfl, rfl, hc19, hr18, hr20, _⟩
 refine cwV 24 [_, _, _, _, _, _] (mV (k:=sV exV (k:=sV exV (k:=?_))))
 refine alV zeroValue54 fun g21 => ?_
 refine stV 0 (.slice A16 z10.1.length c17) #[.slice A16 z10.1.length c17] sizeOf54 (k:=aV (k:=WR.done (WC.seq (WC.rs (mV (k:=sV ci (k:=WR.done ?_)))))))
 refine ciV h (fun hb22 h => ?_) (fun hb22 h => ?_)
 ·
  refine WC.rs (mV (k:=aV (k:=aV (k:=WR.done ?_))))
  refine WC.ret ?_
  intro w hw
  have hw := hw.pad
  exact re_ r [2, 0] h hF hw ⟨none, 0, [], rfl, rfl, (Own.nil iy _ 47), hr20, trivial⟩
 refine WC.skip (wc_ ?_)
 cases h
abbrev jZ (gs_ : Nat) (es_ : Nat × Nat) (rows_ : Rowb) (r : List aH) (U : List Rowb) (Γ : Gh) (v : Value) : Prop := ∃ (A0 : Option Addr), ∃ (c0 : Nat), ∃ (row0 : Rowb), v = .slice A0 r.length c0 ∧ U = [rows_, row0] ∧ Own jL Γ 63 row0 A0 c0 r ∧ True
theorem k9 {gs_ : Nat} {es_ : Nat × Nat} {rows_ : Rowb} {s_ : au} (hs_ : au.ob es_ Γ gs_ rows_ s_) (hp : Pre [rows_] Γ w0) {r : List aH} (h : dS s_ = some r) : Calls Tryz.prog 16 #[(pq gs_)] w0 (Outc Γ [rows_] w0 (jZ gs_ es_ rows_ r)) := by
 refine goV [2] func16 ntmps16 results16 hp fun F hF => ?_
 refine WC.rs (aV (k:=WR.done (WC.rs (mV (k:=sV nlV (k:=sV (q_fl 31 pN) (k:=?_)))))))
 obtain ⟨A1_1, c1_1, A3_1, c3_1, A18_1, c18_1, g19_1, r19_1, y20_1, y27_1, hrow_1, ho0_1, ho1_1, ho2_1, ho3_1, ho4_1, ho5_1, ho6_1, ho7_1, ho8_1, ho9_1, ho10_1, ho11_1, ho12_1, ho13_1, ho14_1, ho15_1, ho16_1, ho17_1, ho18_1, ho19_1, ho20_1, ho21_1, ho22_1, ho23_1, -⟩ := id hs_
 refine ufR 0 hrow_1 [_, _] ?_
 refine sV (ldV 0 isAgg59) (k:=aV (k:=WR.done (WC.rs (mV (k:=sV nlV (k:=sV (q_fl 31 pN) (k:=stV 0 (.slice none 0 0) #[ii s_.c_sites, .slice A1_1 s_.c_links.length c1_1, ii s_.c_nodes, .slice A3_1 s_.c_members.length c3_1, ii s_.c_n, ii s_.c_r, ii s_.c_w, ii s_.c_group, .string s_.c_secret, ii s_.c_room, ii s_.c_seg, ii s_.c_cap, ii s_.c_pend, ii s_.c_wait, ii s_.c_timeout, ii s_.c_hintAfter, ii s_.c_base, ii s_.self, .slice A18_1 s_.links.length c18_1, (pq g19_1), y20_1, ii s_.ids, .pointer none, .pointer none, .slice none 0 0, .slice none 0 0, .slice none 0 0, y27_1, .pointer none, .pointer none, .slice none 0 0, .slice none 0 0] sizeOf59 (k:=?_))))))))
 refine WR.done (WC.rs (mV (k:=aV (k:=WR.done ?_))))
 refine WC.ret ?_
 intro w hw
 have hw := hw.fold (is := [0, 0]) rfl hrow_1
 have hw := hw.pad
 exact re_ r [1, 0] h hF hw ⟨none, 0, [], rfl, rfl, (Own.nil jL _ 63), trivial⟩
abbrev kN (gq : Nat) (eq : Nat × Nat) (rowq : Rowb) (r : Rec × Bool) (U : List Rowb) (Γ : Gh) (v : Value) : Prop := ∃ (A0_1 : Option Addr), ∃ (c0_1 : Nat), v = .tuple #[.agg #[.string r.1.key, .slice A0_1 r.1.vers.length c0_1], .bool r.2] ∧ U = [rowq] ∧ Rec.fits Γ A0_1 c0_1 r.1 ∧ True
theorem kP {gq : Nat} {eq : Nat × Nat} {rowq : Rowb} {q : ay} (hq : ay.ob eq Γ gq rowq q) (hp : Pre [rowq] Γ w0) {r : Rec × Bool} (h : gc q = some r) : Calls Tryz.prog 58 #[(pq gq)] w0 (Outc Γ [rowq] w0 (kN gq eq rowq r)) := by
 refine lm (N := 17) (rs := [.cell 2 51, .tmp 3]) (args := [(pq gq)]) func58 rfl ntmps58 results58 rfl ?_
 obtain ⟨F, hF⟩ : ∃ F : Fm, F = ⟨ids [rowq], w0, Γ⟩ := ⟨_, rfl⟩
 refine WC.here (C := CC F Γ [rowq]) ?_ (hF ▸ hp.start)
 refine WC.rs ?_
 refine alV zeroValue51 fun g1 => ?_
 refine aV (k:=WR.done (WC.seq (WC.rs (mV (k:=sV nlV (k:=sV (q_fl 8 uY) (k:=?_)))))))
 obtain ⟨A2_2, c2_2, A5_2, c5_2, g6_2, r6_2, A7_2, c7_2, A8_2, A9_2, c9_2, r9_2, m11_2, r11_2, A12_2, c12_2, hrow_2, ho0_2, ho1_2, ho2_2, ho3_2, ho4_2, ho5_2, ho6_2, ho7_2, ho8_2, ho9_2, ho10_2, ho11_2, ho12_2, ho13_2, ho14_2, ho15_2, ho16_2, -⟩ := id hq
 refine ufR 1 hrow_2 [_, _, _, _, _] ?_
 refine sV (ldV 0 isAgg151) (k:=sV (wI ho11_2 underlying151 rfl rfl rfl) (k:=WR.done ?_))
 refine ciV h (fun hb3 h => ?_) (fun hb3 h => ?_)
 ·
  refine WC.rs (sV (jm (v := .agg #[.string ByteArray.empty, .slice none 0 0]) rfl (fun w => by kernel_rfl)) (k:=stV 4 (.agg #[.string ByteArray.empty, .slice none 0 0]) #[.string ByteArray.empty, .slice none 0 0] sizeOf51 (k:=aV (k:=WR.done ?_))))
  refine WC.ret ?_
  intro w hw
  have hw := hw.fold (is := [0, 0, 0, 0]) rfl hrow_2
  obtain rfl := Option.some.inj h
  subst hF
  exact ⟨[.agg #[.string ByteArray.empty, .slice none 0 0], .bool false], (tq (i := 1) (us := [.string ByteArray.empty, .slice none 0 0]) hw rfl isAgg51 sizeOf51 (by kernel_rfl) rfl (zr (by kernel_rfl) n4)), bO (is := [0]) (by kernel_rfl) hw rfl ⟨none, 0, rfl, rfl, ⟨(show (ByteArray.empty : ByteArray).size ≤ lim by decide), nilV⟩, trivial⟩⟩
 refine WC.skip (wc_ ?_)
 cases h
abbrev mL (gs_ : Nat) (es_ : Nat × Nat) (rows_ : Rowb) (r : Bool) (U : List Rowb) (Γ : Gh) (v : Value) : Prop := v = .bool r ∧ U = [rows_] ∧ True
theorem mM {gs_ : Nat} {es_ : Nat × Nat} {rows_ : Rowb} {s_ : au} (hs_ : au.ob es_ Γ gs_ rows_ s_) (hp : Pre [rows_] Γ w0) {r : Bool} (h : fy s_ = some r) : Calls Tryz.prog 23 #[(pq gs_)] w0 (Outc Γ [rows_] w0 (mL gs_ es_ rows_ r)) := by
 refine goV [2] func23 ntmps23 results23 hp fun F hF => ?_
 refine WC.rs (aV (k:=WR.done (WC.rs (mV (k:=sV nlV (k:=sV (q_fl 19 ly) (k:=?_)))))))
 obtain ⟨A1_1, c1_1, A3_1, c3_1, A18_1, c18_1, g19_1, r19_1, y20_1, y27_1, hrow_1, ho0_1, ho1_1, ho2_1, ho3_1, ho4_1, ho5_1, ho6_1, ho7_1, ho8_1, ho9_1, ho10_1, ho11_1, ho12_1, ho13_1, ho14_1, ho15_1, ho16_1, ho17_1, ho18_1, ho19_1, ho20_1, ho21_1, ho22_1, ho23_1, -⟩ := id hs_
 refine ufR 0 hrow_1 [_, _] ?_
 refine sV (ldV 0 isAgg86) (k:=?_)
 obtain ⟨z2, hz3, h⟩ := bnd h
 refine ecV [1] (caV call58) (fun w hp => kP ho22_1 hp hz3) ?_
 rintro Γ4 _ _ hl5 ⟨A8, c9, rfl, rfl, hr10, _⟩
 refine cwV 10 [_, _] (mV (k:=sV exV (k:=sV exV (k:=?_))))
 refine alV zeroValue51 fun g11 => ?_
 refine stV 0 (.agg (Rec.cs A8 c9 z2.1).toArray) (Rec.cs A8 c9 z2.1).toArray sizeOf51 (k:=aV (k:=WR.done (WC.seq ?_)))
 refine drV ?_
 refine zV moV (k:=zV nlV (k:=zV (q_fl 22 wl) (k:=zV (ldV 2 isAgg87) (k:=zV (gy (a := none) underlying87 rfl rfl rfl) (k:=zV moV (k:=wG1 (h:=fun hg12 => moV) (k:=wG1 (h:=fun hg13 => dJ rfl (grV rfl)) (k:=?_))))))))
 refine zV (tP (v := .bool (!z2.2)) rfl rfl (grV rfl)) (k:=zV moV (k:=wG1 (h:=fun hg14 => moV) (k:=wG1 (h:=fun hg15 => nlV (hv:=grV hg15)) (k:=wG1 (h:=fun hg16 => q_fl 25 sy rfl (grV hg16)) (k:=wG1 (h:=fun hg17 => ldV 2 isAgg90 (hx:=grV hg17)) (k:=wG1 (h:=fun hg18 => ai (n := 0) rfl underlying90 (grV hg18)) (k:=wG1 (h:=fun hg19 => moV) (k:=?_))))))))
 refine wG1 (h:=fun hg20 => nlV (hv:=grV hg20)) (k:=wG1 (h:=fun hg21 => q_fl 24 sA rfl (grV hg21)) (k:=wG1 (h:=fun hg22 => ldV 2 isAgg89 (hx:=grV hg22)) (k:=wG1 (h:=fun hg23 => ai (n := 0) rfl underlying89 (grV hg23)) (k:=wG1 (h:=fun hg24 => cK rfl (grV hg24) (grV hg24)) (k:=wG1 (h:=fun hg25 => moV) (k:=wG1 (h:=fun hg26 => nlV (hv:=grV hg26)) (k:=wG1 (h:=fun hg27 => q_fl 26 uV rfl (grV hg27)) (k:=?_))))))))
 refine wG1 (h:=fun hg28 => ldV 2 isAgg91 (hx:=grV hg28)) (k:=wG1 (h:=fun hg29 => ai (n := 0) rfl underlying91 (grV hg29)) (k:=wG1 (h:=fun hg30 => cK rfl (grV hg30) (grV hg30)) (k:=wG1 (h:=fun hg31 => dl rfl (grV hg31)) (k:=zV pkA (k:=zV moV (k:=wG1 (h:=fun hg32 => moV) (k:=wG1 (h:=fun hg33 => nlV (hv:=grV hg33)) (k:=?_))))))))
 refine wG1 (h:=fun hg34 => q_fl 28 uR rfl (grV hg34)) (k:=wG1 (h:=fun hg35 => ldV 2 isAgg92 (hx:=grV hg35)) (k:=wG1 (h:=fun hg36 => gy (a := none) underlying92 rfl (grV hg36) rfl) (k:=zV pkA (k:=zV moV (k:=wG1 (h:=fun hg37 => moV) (k:=wG1 (h:=fun hg38 => nlV (hv:=grV hg38)) (k:=wG1 (h:=fun hg39 => q_fl 29 uH rfl (grV hg39)) (k:=?_))))))))
 refine wG1 (h:=fun hg40 => ldV 2 isAgg93 (hx:=grV hg40)) (k:=wG1 (h:=fun hg41 => gy (a := none) underlying93 rfl (grV hg41) rfl) (k:=zV pkA (k:=zV aoV (k:=?_))))
 refine WQ.nil ?_
 change WC _ _ _ _ _ _
 refine WC.ret ?_
 intro w hw
 have hw := hw.fold (is := [2, 1]) rfl hrow_1
 exact re_ r [0] h hF hw ⟨rfl, rfl, trivial⟩
end Fw
end Go.Proofs.YtogmioecalmalaaGreat
