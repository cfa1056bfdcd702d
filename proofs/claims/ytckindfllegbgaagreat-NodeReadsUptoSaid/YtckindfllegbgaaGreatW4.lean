/- Walks through the functions that the law reaches (printed by a program). No condition. -/
import Derived.Test.YtckindfllegbgaaGreatW3
namespace Go.Proofs.YtckindfllegbgaaGreat
namespace Fw
set_option linter.unusedVariables false
set_option linter.unusedSimpArgs false
set_option linter.unusedSectionVars false
set_option maxRecDepth 100000
set_option maxHeartbeats 400000
open Go.RowKit
open Go.Proofs.Tryz
theorem t_firthlaw15_written {Γ : Gh} {w0 : World} {Aa : Option Addr} {ca : Nat} {a : List Ver} (ha : Sl verT Γ Aa a) (hac : a.length ≤ ca) {Ab : Option Addr} {cb : Nat} {b : List Ver} (hb : Sl verT Γ Ab b) (hbc : b.length ≤ cb) (hs : Sat Γ w0) {r : Bool} (h : m_firthlaw15_written a b = some r) : Calls Tryz.prog 29 #[.slice Aa a.length ca, .slice Ab b.length cb] w0 (fun e w' => e = .returned (.bool r) ∧ Fr no w0 w') := by
 refine goq_ (n := 80) (rs := [4]) (args := [.slice Aa a.length ca, .slice Ab b.length cb]) func29 rfl ntmps29 results29 rfl hs fun F hF => ?_
 refine WC.rs (aV (k:=WR.done (WC.seq (WC.rs (aV (k:=WR.done (WC.block ?_)))))))
 refine WC.forI h (fun (i2 : Nat) (s : Unit) σ w => match s with | () => slots σ [(0, .slice Aa a.length ca), (1, .slice Ab b.length cb), (5, ii ((i2 : Nat) : Int))] ∧ CC F Γ [] w ∧ True) ?_ ?_
 ·
  intro w hw
  exact ⟨(sl_ (by kernel_rfl)), hw, trivial⟩
 rintro f1 i2 ⟨⟩ σ w hi3 hlt4 hge5 ⟨hsl, hw, -⟩
 refine Wpt.slots hsl ?_
 refine WC.here (C := CC F Γ []) ?_ hw
 clear hw hsl
 refine WC.seq (WC.rs (mV (k:=mV (k:=sV (q_len_slice rfl underlying43) (k:=sV q_lss (k:=WR.done ?_))))))
 refine WC.cond (b := (decide (((i2 : Nat) : Int) < ((a.length : Nat) : Int)))) (by kernel_rfl) (fun hb6 => ?_) (fun hb6 => ?_)
 ·
  have hl7 := ilt hb6
  have h := hlt4 hl7
  refine WC.skip (wc_ ?_)
  refine WC.seq (WC.block (WC.rs (aV (k:=WR.done (WC.block ?_)))))
  refine WC.forI h (fun (i9 : Nat) (s : Unit) σ w => match s with | () => slots σ [(0, .slice Aa a.length ca), (1, .slice Ab b.length cb), (5, ii ((i2 : Nat) : Int)), (6, ii ((i9 : Nat) : Int))] ∧ CC F Γ [] w ∧ True) ?_ ?_
  ·
   intro w hw
   exact ⟨(sl_ (by kernel_rfl)), hw, trivial⟩
  rintro f8 i9 ⟨⟩ σ w hi10 hlt11 hge12 ⟨hsl, hw, -⟩
  refine Wpt.slots hsl ?_
  refine WC.here (C := CC F Γ []) ?_ hw
  clear hw hsl
  refine WC.seq (WC.rs (mV (k:=mV (k:=sV (q_len_slice rfl underlying43) (k:=sV q_lss (k:=WR.done ?_))))))
  refine WC.cond (b := (decide (((i9 : Nat) : Int) < ((b.length : Nat) : Int)))) (by kernel_rfl) (fun hb13 => ?_) (fun hb13 => ?_)
  ·
   have hl14 := ilt hb13
   have h := hlt11 hl14
   refine WC.skip (wc_ ?_)
   refine WC.seq (WC.block (WC.seq (WC.seq ?_)))
   refine WC.dr (by kernel_rfl) (by kernel_rfl) (fun w hw => hw.drawn _) ?_
   refine zV moV (k:=zV moV (k:=zV (q_ixn (i := i2) underlying43 sizeOf89 rfl rfl rfl hl7 (ha.some_ hl7)) (k:=zV (q_field_addr (i2 * 5) fld_89_0 rfl rfl (ha.some_ hl7) rfl) (k:=?_))))
   obtain ⟨A15, c16, hx17⟩ := ha.verT_at i2
   refine zV (q_lda (c := 0) (vs := [ii (gt a i2).dot.s, ii (gt a i2).dot.n]) (hx17 hl7).2 rfl isAgg86 sizeOf86 rfl rfl rfl) (k:=zV moV (k:=zV moV (k:=zV (q_ixn (i := i9) underlying43 sizeOf89 rfl rfl rfl hl14 (hb.some_ hl14)) (k:=zV (q_field_addr (i9 * 5) fld_89_0 rfl rfl (hb.some_ hl14) rfl) (k:=?_)))))
   obtain ⟨A18, c19, hx20⟩ := hb.verT_at i9
   refine zV (q_lda (c := 0) (vs := [ii (gt b i9).dot.s, ii (gt b i9).dot.n]) (hx20 hl14).2 rfl isAgg86 sizeOf86 rfl rfl rfl) (k:=zV (q_eql_Dot (a := (gt a i2).dot) (b := (gt b i9).dot) rfl rfl rfl) (k:=zV moV (k:=wG1 (h:=fun hg21 => moV) (k:=wG1 (h:=fun hg22 => moV) (k:=wG1 (h:=fun hg23 => q_ixn (i := i2) underlying43 sizeOf89 rfl (grV hg23) (grV hg23) hl7 (ha.some_ hl7)) (k:=wG1 (h:=fun hg24 => q_lda (c := 0) (vs := [ii (gt a i2).dot.s, ii (gt a i2).dot.n, .slice A15 ((gt a i2).past).length c16, .bool (gt a i2).gone, .string (gt a i2).val]) (hx17 hl7).2 rfl isAgg89 sizeOf89 (grV hg24) rfl rfl) (k:=wG1 (h:=fun hg25 => moV) (k:=?_))))))))
   refine wG1 (h:=fun hg26 => moV) (k:=wG1 (h:=fun hg27 => q_ixn (i := i9) underlying43 sizeOf89 rfl (grV hg27) (grV hg27) hl14 (hb.some_ hl14)) (k:=wG1 (h:=fun hg28 => q_lda (c := 0) (vs := [ii (gt b i9).dot.s, ii (gt b i9).dot.n, .slice A18 ((gt b i9).past).length c19, .bool (gt b i9).gone, .string (gt b i9).val]) (hx20 hl14).2 rfl isAgg89 sizeOf89 (grV hg28) rfl rfl) (k:=?_)))
   obtain ⟨z30, hz31, h⟩ := bnd h
   refine wg1 rfl rfl rfl rfl rfl (fun hg29 => (q_call (call_run call45 rfl rfl (args2 (grV hg29) (grV hg29))) (fun w hw => t_firthref05_SameOne (Γ := Gh.all w) (gt a i2) (Ver.fits_mono (hx17 hl7).1 hw.sat.le_all) (gt b i9) (Ver.fits_mono (hx20 hl14).1 hw.sat.le_all) (Sat.all w) (gc_of hz31 hg29)))) (wG1 (h:=fun hg32 => q_not rfl (grV hg32)) (k:=zV pkA (k:=?_)))
   refine WQ.nil ?_
   change WC _ _ _ _ _ _
   refine ciV h (fun hb33 h => ?_) (fun hb33 h => ?_)
   ·
    refine WC.rs (aV (k:=WR.done ?_))
    exact WC.ret fun w hw => rq_ r h hF hw
   refine WC.skip (wc_ ?_)
   refine WC.seq ?_
   refine WC.dr (by kernel_rfl) (by kernel_rfl) (fun w hw => hw.drawn _) ?_
   refine zV moV (k:=zV moV (k:=zV moV (k:=zV (q_add_r (r := ((i2 + 1 : Nat) : Int)) rfl rfl rfl (ctr_len hl7 ha.le)) (k:=?_))))
   obtain ⟨hk34, h⟩ := chk_some h
   refine zV (q_cut (c := ca) (lo := i2) (hi := i2 + 1) (xs := a) underlying43 sizeOf89 rfl rfl rfl rfl (Nat.le_succ _) (of_decide_eq_true hk34) hac) (k:=zV moV (k:=zV moV (k:=zV (q_ixn (i := i9) underlying43 sizeOf89 rfl rfl rfl hl14 (hb.some_ hl14)) (k:=zV (q_field_addr (i9 * 5) fld_89_0 rfl rfl (hb.some_ hl14) rfl) (k:=zV (q_lda (c := 0) (vs := [ii (gt b i9).dot.s, ii (gt b i9).dot.n]) (hx20 hl14).2 rfl isAgg86 sizeOf86 rfl rfl rfl) (k:=?_))))))
   obtain ⟨z35, hz36, h⟩ := bnd h
   refine wc rfl rfl rfl (q_call (caV call51) (fun w hw => t_firthref05_Behind (Γ := Gh.all w) ((ha.cut (cap := ca) (lo := i2) (hi := i2 + 1) (Nat.le_succ _) (of_decide_eq_true hk34) hac).mono hw.sat.le_all) (cut2_cap hac i2 (i2 + 1)) ((gt b i9).dot) ⟨(hx20 hl14).1.1, (hx20 hl14).1.2.1⟩ (Sat.all w) hz36)) (zV moV (k:=wG1 (h:=fun hg37 => moV) (k:=wG1 (h:=fun hg38 => moV) (k:=wG1 (h:=fun hg39 => moV) (k:=wG1 (h:=fun hg40 => q_add_r (r := ((i9 + 1 : Nat) : Int)) rfl (grV hg40) rfl (ctr_len hl14 hb.le)) (k:=?_))))))
   obtain ⟨hk42, h⟩ := chk_some h
   refine wG1 (h:=fun hg41 => q_cut (c := cb) (lo := i9) (hi := i9 + 1) (xs := b) underlying43 sizeOf89 rfl (grV hg41) (grV hg41) (grV hg41) (Nat.le_succ _) (of_decide_eq_true (imp_of hk42 hg41)) hbc) (k:=wG1 (h:=fun hg43 => moV) (k:=wG1 (h:=fun hg44 => moV) (k:=wG1 (h:=fun hg45 => q_ixn (i := i2) underlying43 sizeOf89 rfl (grV hg45) (grV hg45) hl7 (ha.some_ hl7)) (k:=wG1 (h:=fun hg46 => q_field_addr (i2 * 5) fld_89_0 rfl (grV hg46) (ha.some_ hl7) rfl) (k:=wG1 (h:=fun hg47 => q_lda (c := 0) (vs := [ii (gt a i2).dot.s, ii (gt a i2).dot.n]) (hx17 hl7).2 rfl isAgg86 sizeOf86 (grV hg47) rfl rfl) (k:=?_))))))
   obtain ⟨z49, hz50, h⟩ := bnd h
   refine wg1 rfl rfl rfl rfl rfl (fun hg48 => (q_call (call_run call51 rfl rfl (args2 (grV hg48) (grV hg48))) (fun w hw => t_firthref05_Behind (Γ := Gh.all w) ((hb.cut (cap := cb) (lo := i9) (hi := i9 + 1) (Nat.le_succ _) (of_decide_eq_true (imp_of hk42 hg48)) hbc).mono hw.sat.le_all) (cut2_cap hbc i9 (i9 + 1)) ((gt a i2).dot) ⟨(hx17 hl7).1.1, (hx17 hl7).1.2.1⟩ (Sat.all w) (gc_of hz50 hg48)))) (wG1 (h:=fun hg51 => q_move (v := .bool z49) rfl (grV hg51)) (k:=wh0 (c0 := z35) (g := z49) rfl rfl rfl rfl rfl (fun _ => QV.qo moV) (wh0 (c0 := z35) (g := z49) rfl rfl rfl rfl rfl (fun _ => QV.qo moV) (wh0 (c0 := z35) (g := z49) rfl rfl rfl rfl rfl (fun hg54 => QV.qo (q_ixn (i := i9) underlying43 sizeOf89 rfl (grV hg54) (grV hg54) hl14 (hb.some_ hl14))) (wh0 (c0 := z35) (g := z49) rfl rfl rfl rfl rfl (fun hg55 => QV.qo (q_field_addr (i9 * 5 + 2) fld_89_1 rfl (grV hg55) (hb.some_ hl14) rfl)) (wh0 (c0 := z35) (g := z49) rfl rfl rfl rfl rfl (fun hg56 => QV.qo (q_ld (c := 2) (v := .slice A18 ((gt b i9).past).length c19) (hx20 hl14).2 rfl isAgg87 (grV hg56) rfl)) (wh0 (c0 := z35) (g := z49) rfl rfl rfl rfl rfl (fun _ => QV.qo moV) ?_)))))))
   refine wh0 (c0 := z35) (g := z49) rfl rfl rfl rfl rfl (fun _ => QV.qo moV) (wh0 (c0 := z35) (g := z49) rfl rfl rfl rfl rfl (fun hg59 => QV.qo (q_ixn (i := i2) underlying43 sizeOf89 rfl (grV hg59) (grV hg59) hl7 (ha.some_ hl7))) (wh0 (c0 := z35) (g := z49) rfl rfl rfl rfl rfl (fun hg60 => QV.qo (q_field_addr (i2 * 5 + 2) fld_89_1 rfl (grV hg60) (ha.some_ hl7) rfl)) (wh0 (c0 := z35) (g := z49) rfl rfl rfl rfl rfl (fun hg61 => QV.qo (q_ld (c := 2) (v := .slice A15 ((gt a i2).past).length c16) (hx17 hl7).2 rfl isAgg87 (grV hg61) rfl)) ?_)))
   obtain ⟨z63, hz64, h⟩ := bnd h
   refine wh0 (c0 := z35) (g := z49) rfl rfl rfl rfl rfl (fun hg62 => (q_call (call_run call52 rfl rfl (args2 (grV hg62) (grV hg62))) (fun w hw => t_firthlaw15_under (Γ := Gh.all w) ((hx20 hl14).1.2.2.1.2.mono hw.sat.le_all) (hx20 hl14).1.2.2.1.1 ((hx17 hl7).1.2.2.1.2.mono hw.sat.le_all) (hx17 hl7).1.2.2.1.1 (Sat.all w) (gc_of hz64 hg62)))) (wh0 (c0 := z35) (g := z49) rfl rfl rfl rfl rfl (fun hg65 => QV.qo (q_not rfl (grV hg65))) (wG1 (h:=fun hg66 => q_pick rfl (grV hg66) (pk_or (c := z35) (g := z49) (y := (!z63)) hg66)) (k:=zV pkA (k:=?_))))
   refine WQ.nil ?_
   change WC _ _ _ _ _ _
   refine ciV h (fun hb67 h => ?_) (fun hb67 h => ?_)
   ·
    refine WC.rs (aV (k:=WR.done ?_))
    exact WC.ret fun w hw => rq_ r h hF hw
   refine WC.skip (wc_ ?_)
   refine WC.region ?_
   refine mV (k:=sV (q_add_r (r := ((i9 + 1 : Nat) : Int)) rfl rfl rfl (ctr_len hl14 hb.le)) (k:=aV (k:=?_)))
   refine WR.nil ?_
   intro w hw
   exact ⟨hl14, (), h, (sl_ (by kernel_rfl)), hw, trivial⟩
  have h := hge12 (ige hb13)
  refine WC.exit ?_
  change WC _ _ _ _ _ _
  refine WC.region ?_
  refine mV (k:=sV (q_add_r (r := ((i2 + 1 : Nat) : Int)) rfl rfl rfl (ctr_len hl7 ha.le)) (k:=aV (k:=?_)))
  refine WR.nil ?_
  intro w hw
  exact ⟨hl7, (), h, (sl_ (by kernel_rfl)), hw, trivial⟩
 have h := hge5 (ige hb6)
 refine WC.exit ?_
 change WC _ _ _ _ _ _
 refine WC.rs (aV (k:=WR.done ?_))
 exact WC.ret fun w hw => rq_ r h hF hw
theorem t_firthlaw15_plain {Γ : Gh} {w0 : World} {Alist : Option Addr} {clist : Nat} {list : List Rec} (hlist : Sl recT Γ Alist list) (hlistc : list.length ≤ clist) (hs : Sat Γ w0) {r : Bool} (h : m_firthlaw15_plain list = some r) : Calls Tryz.prog 8 #[.slice Alist list.length clist] w0 (fun e w' => e = .returned (.bool r) ∧ Fr no w0 w') := by
 refine goq_ (n := 64) (rs := [2]) (args := [.slice Alist list.length clist]) func8 rfl ntmps8 results8 rfl hs fun F hF => ?_
 refine WC.rs (aV (k:=WR.done (WC.rs (aV (k:=WR.done (WC.seq (WC.rs ?_)))))))
 refine mV (k:=?_)
 obtain ⟨z1, hz2, h⟩ := bnd h
 refine vqV (caV call27) (fun w hw => t_firthlaw15_heavy (Γ := Gh.all w) (hlist.mono hw.sat.le_all) hlistc (Sat.all w) hz2) (k:=sV q_gtr (k:=WR.done ?_))
 refine ciV h (fun hb3 h => ?_) (fun hb3 h => ?_)
 ·
  refine WC.rs (aV (k:=WR.done ?_))
  exact WC.ret fun w hw => rq_ r h hF hw
 refine WC.skip (wc_ ?_)
 refine WC.seq (WC.rs (aV (k:=WR.done (WC.block ?_))))
 refine WC.forI h (fun (i7 : Nat) (n_4 : Int) σ w => slots σ [(0, .slice Alist list.length clist), (3, ii n_4), (4, ii ((i7 : Nat) : Int))] ∧ CC F Γ [] w ∧ I64 n_4 ∧ True) ?_ ?_
 ·
  intro w hw
  exact ⟨(sl_ (by kernel_rfl)), hw, (show I64 0 by decide), trivial⟩
 rintro f6 i7 n_4 σ w hi8 hlt9 hge10 ⟨hsl, hw, hr5, -⟩
 refine Wpt.slots hsl ?_
 refine WC.here (C := CC F Γ []) ?_ hw
 clear hw hsl
 refine WC.seq (WC.rs (mV (k:=mV (k:=sV (q_len_slice rfl underlying22) (k:=sV q_lss (k:=WR.done ?_))))))
 refine WC.cond (b := (decide (((i7 : Nat) : Int) < ((list.length : Nat) : Int)))) (by kernel_rfl) (fun hb11 => ?_) (fun hb11 => ?_)
 ·
  have hl12 := ilt hb11
  have h := hlt9 hl12
  refine WC.skip (wc_ ?_)
  refine WC.seq (WC.block (WC.rs (mV (k:=mV (k:=mV (k:=sV (q_ixn (i := i7) underlying22 sizeOf45 rfl rfl rfl hl12 (hlist.some_ hl12)) (k:=sV (q_field_addr (i7 * 2 + 1) fld_45_1 rfl rfl (hlist.some_ hl12) rfl) (k:=?_))))))))
  obtain ⟨A13, c14, hx15⟩ := hlist.recT_at i7
  refine sV (q_ld (c := 1) (v := .slice A13 ((gt list i7).vers).length c14) (hx15 hl12).2 rfl isAgg43 rfl rfl) (k:=sV (q_len_slice rfl underlying43) (k:=sV q_add (k:=aV (k:=WR.done (WC.seq (WC.rs (mV (k:=?_))))))))
  refine mV (k:=sV (q_ixn (i := i7) underlying22 sizeOf45 rfl rfl rfl hl12 (hlist.some_ hl12)) (k:=sV (q_lda (c := 0) (vs := [.string (gt list i7).key, .slice A13 ((gt list i7).vers).length c14]) (hx15 hl12).2 rfl isAgg45 sizeOf45 rfl rfl rfl) (k:=?_)))
  obtain ⟨z16, hz17, h⟩ := bnd h
  refine vqV (caV call28) (fun w hw => t_firthref06_RightRec (Γ := Gh.all w) (gt list i7) (Rec.fits_mono (hx15 hl12).1 hw.sat.le_all) (Sat.all w) hz17) (k:=sV q_not (k:=mV (k:=vG0 (h:=fun hg18 => moV) (k:=vG0 (h:=fun hg19 => q_gtr rfl (grV hg19)) (k:=sV pkO (k:=WR.done ?_))))))
  refine ciV h (fun hb20 h => ?_) (fun hb20 h => ?_)
  ·
   refine WC.rs (aV (k:=WR.done ?_))
   exact WC.ret fun w hw => rq_ r h hF hw
  refine WC.skip (wc_ ?_)
  refine WC.rs (aV (k:=WR.done (WC.block ?_)))
  refine WC.forI h (fun (i22 : Nat) (s : Unit) σ w => match s with | () => slots σ [(0, .slice Alist list.length clist), (3, ii (w64 (n_4 + ((((gt list i7).vers).length : Nat) : Int)))), (4, ii ((i7 : Nat) : Int)), (5, ii ((i22 : Nat) : Int))] ∧ CC F Γ [] w ∧ True) ?_ ?_
  ·
   intro w hw
   exact ⟨(sl_ (by kernel_rfl)), hw, trivial⟩
  rintro f21 i22 ⟨⟩ σ w hi23 hlt24 hge25 ⟨hsl, hw, -⟩
  refine Wpt.slots hsl ?_
  refine WC.here (C := CC F Γ []) ?_ hw
  clear hw hsl
  refine WC.seq (WC.rs (mV (k:=mV (k:=sV (q_len_slice rfl underlying22) (k:=sV q_lss (k:=WR.done ?_))))))
  refine WC.cond (b := (decide (((i22 : Nat) : Int) < ((list.length : Nat) : Int)))) (by kernel_rfl) (fun hb26 => ?_) (fun hb26 => ?_)
  ·
   have hl27 := ilt hb26
   have h := hlt24 hl27
   refine WC.skip (wc_ ?_)
   refine WC.seq (WC.block (WC.seq ?_))
   refine WC.dr (by kernel_rfl) (by kernel_rfl) (fun w hw => hw.drawn _) ?_
   refine zV moV (k:=zV moV (k:=zV (q_ixn (i := i7) underlying22 sizeOf45 rfl rfl rfl hl12 (hlist.some_ hl12)) (k:=zV (q_field_addr (i7 * 2) fld_45_0 rfl rfl (hlist.some_ hl12) rfl) (k:=?_))))
   obtain ⟨A28, c29, hx30⟩ := hlist.recT_at i7
   refine zV (q_ld (c := 0) (v := .string (gt list i7).key) (hx30 hl12).2 rfl isAgg9 rfl rfl) (k:=zV moV (k:=zV moV (k:=zV (q_ixn (i := i22) underlying22 sizeOf45 rfl rfl rfl hl27 (hlist.some_ hl27)) (k:=zV (q_field_addr (i22 * 2) fld_45_0 rfl rfl (hlist.some_ hl27) rfl) (k:=?_)))))
   obtain ⟨A31, c32, hx33⟩ := hlist.recT_at i22
   refine zV (q_ld (c := 0) (v := .string (gt list i22).key) (hx33 hl27).2 rfl isAgg9 rfl rfl) (k:=zV q_seql (k:=zV moV (k:=wG1 (h:=fun hg34 => moV) (k:=wG1 (h:=fun hg35 => moV) (k:=wG1 (h:=fun hg36 => q_ixn (i := i7) underlying22 sizeOf45 rfl (grV hg36) (grV hg36) hl12 (hlist.some_ hl12)) (k:=wG1 (h:=fun hg37 => q_field_addr (i7 * 2 + 1) fld_45_1 rfl (grV hg37) (hlist.some_ hl12) rfl) (k:=wG1 (h:=fun hg38 => q_ld (c := 1) (v := .slice A28 ((gt list i7).vers).length c29) (hx30 hl12).2 rfl isAgg43 (grV hg38) rfl) (k:=?_))))))))
   refine wG1 (h:=fun hg39 => moV) (k:=wG1 (h:=fun hg40 => moV) (k:=wG1 (h:=fun hg41 => q_ixn (i := i22) underlying22 sizeOf45 rfl (grV hg41) (grV hg41) hl27 (hlist.some_ hl27)) (k:=wG1 (h:=fun hg42 => q_field_addr (i22 * 2 + 1) fld_45_1 rfl (grV hg42) (hlist.some_ hl27) rfl) (k:=wG1 (h:=fun hg43 => q_ld (c := 1) (v := .slice A31 ((gt list i22).vers).length c32) (hx33 hl27).2 rfl isAgg43 (grV hg43) rfl) (k:=?_)))))
   obtain ⟨z45, hz46, h⟩ := bnd h
   refine wg1 rfl rfl rfl rfl rfl (fun hg44 => (q_call (call_run call29 rfl rfl (args2 (grV hg44) (grV hg44))) (fun w hw => t_firthlaw15_written (Γ := Gh.all w) ((hx30 hl12).1.2.2.mono hw.sat.le_all) (hx30 hl12).1.2.1 ((hx33 hl27).1.2.2.mono hw.sat.le_all) (hx33 hl27).1.2.1 (Sat.all w) (gc_of hz46 hg44)))) (wG1 (h:=fun hg47 => q_not rfl (grV hg47)) (k:=zV pkA (k:=?_)))
   refine WQ.nil ?_
   change WC _ _ _ _ _ _
   refine ciV h (fun hb48 h => ?_) (fun hb48 h => ?_)
   ·
    refine WC.rs (aV (k:=WR.done ?_))
    exact WC.ret fun w hw => rq_ r h hF hw
   refine WC.skip (wc_ ?_)
   refine WC.region ?_
   refine mV (k:=sV (q_add_r (r := ((i22 + 1 : Nat) : Int)) rfl rfl rfl (ctr_len hl27 hlist.le)) (k:=aV (k:=?_)))
   refine WR.nil ?_
   intro w hw
   exact ⟨hl27, (), h, (sl_ (by kernel_rfl)), hw, trivial⟩
  have h := hge25 (ige hb26)
  refine WC.exit ?_
  change WC _ _ _ _ _ _
  refine WC.region ?_
  refine mV (k:=sV (q_add_r (r := ((i7 + 1 : Nat) : Int)) rfl rfl rfl (ctr_len hl12 hlist.le)) (k:=aV (k:=?_)))
  refine WR.nil ?_
  intro w hw
  exact ⟨hl12, (w64 (n_4 + ((((gt list i7).vers).length : Nat) : Int))), h, (sl_ (by kernel_rfl)), hw, (w64_r _), trivial⟩
 have h := hge10 (ige hb11)
 refine WC.exit ?_
 change WC _ _ _ _ _ _
 refine WC.rs (aV (k:=WR.done ?_))
 exact WC.ret fun w hw => rq_ r h hF hw
theorem t_firthref01_Hash {Γ : Gh} {w0 : World} {Ab : Option Addr} {cb : Nat} {b : List UInt8} (hb : Sl byteT Γ Ab b) (hbc : b.length ≤ cb) (hs : Sat Γ w0) {r : Int} (h : m_firthref01_Hash b = some r) : Calls Tryz.prog 44 #[.slice Ab b.length cb] w0 (fun e w' => e = .returned (.int .u64 r) ∧ Fr no w0 w') := by
 refine goq_ (n := 30) (rs := [2]) (args := [.slice Ab b.length cb]) func44 rfl ntmps44 results44 rfl hs fun F hF => ?_
 refine WC.rs (aV (k:=WR.done (WC.rs (aV (k:=WR.done (WC.seq (WC.rs ?_)))))))
 refine aV (k:=WR.done (WC.block ?_))
 refine WC.forI h (fun (i4 : Nat) (h_1 : Int) σ w => slots σ [(0, .slice Ab b.length cb), (3, .int .u64 h_1), (4, ii ((i4 : Nat) : Int))] ∧ CC F Γ [] w ∧ U64 h_1 ∧ True) ?_ ?_
 ·
  intro w hw
  exact ⟨(sl_ (by kernel_rfl)), hw, (show U64 14695981039346656037 by decide), trivial⟩
 rintro f3 i4 h_1 σ w hi5 hlt6 hge7 ⟨hsl, hw, hr2, -⟩
 refine Wpt.slots hsl ?_
 refine WC.here (C := CC F Γ []) ?_ hw
 clear hw hsl
 refine WC.seq (WC.rs (mV (k:=mV (k:=sV (q_len_slice rfl underlying77) (k:=sV q_lss (k:=WR.done ?_))))))
 refine WC.cond (b := (decide (((i4 : Nat) : Int) < ((b.length : Nat) : Int)))) (by kernel_rfl) (fun hb8 => ?_) (fun hb8 => ?_)
 ·
  have hl9 := ilt hb8
  have h := hlt6 hl9
  refine WC.skip (wc_ ?_)
  refine WC.seq (WC.block (WC.rs (mV (k:=mV (k:=mV (k:=sV (q_ixn (i := i4) underlying77 sizeOf5 rfl rfl rfl hl9 (hb.some_ hl9)) (k:=sV (q_ld (c := 0) (v := .int .u8 (((gt b i4).toNat : Nat) : Int)) (hb.byteT_at hl9).2 rfl isAgg5 rfl rfl) (k:=?_))))))))
  refine sV (q_conv underlying82 underlying5) (k:=sV q_xor (k:=aV (k:=WR.done ?_)))
  refine WC.region ?_
  refine mV (k:=sV q_mul (k:=aV (k:=?_)))
  refine WR.nil ?_
  change WC _ _ _ _ _ _
  refine WC.region ?_
  refine mV (k:=sV (q_add_r (r := ((i4 + 1 : Nat) : Int)) rfl rfl rfl (ctr_len hl9 hb.le)) (k:=aV (k:=?_)))
  refine WR.nil ?_
  intro w hw
  exact ⟨hl9, (wu64 ((ixor .u64 h_1 (wu64 (((gt b i4).toNat : Nat) : Int))) * 1099511628211)), h, (sl_ (by kernel_rfl)), hw, (wu64_r _), trivial⟩
 have h := hge7 (ige hb8)
 refine WC.exit ?_
 change WC _ _ _ _ _ _
 refine WC.rs (mV (k:=mV (k:=sV (q_quo rfl rfl rfl (by decide)) (k:=sV q_xor (k:=aV (k:=WR.done (WC.rs ?_)))))))
 refine mV (k:=sV q_mul (k:=aV (k:=WR.done (WC.rs (mV (k:=mV (k:=sV (q_quo rfl rfl rfl (by decide)) (k:=?_))))))))
 refine sV q_xor (k:=aV (k:=WR.done ?_))
 exact WC.ret fun w hw => rq_ r h hF hw
theorem t_firthref12_Part {Γ : Gh} {w0 : World} (key : ByteArray) (hkey : key.size ≤ lim) (hs : Sat Γ w0) {r : Int} (h : m_firthref12_Part key = some r) : Calls Tryz.prog 16 #[.string key] w0 (fun e w' => e = .returned (ii r) ∧ Fr no w0 w') := by
 refine goq_ (n := 8) (rs := [2]) (args := [.string key]) func16 rfl ntmps16 results16 rfl hs fun F hF => ?_
 refine WC.rs (aV (k:=WR.done (WC.rs (mV (k:=?_)))))
 refine e_convB (src := 9) (dst := 77) (s := key) underlying9 underlying77 underlying5 hkey rfl rfl rfl rfl rfl ?_
 intro Γ1 A2 c3 hl4 hs5 hc6
 obtain ⟨z7, hz8, h⟩ := bnd h
 refine vqV (caV call44) (fun w hw => t_firthref01_Hash (Γ := Gh.all w) (hs5.mono hw.sat.le_all) hc6 (Sat.all w) hz8) (k:=sV (q_rem rfl rfl rfl (by decide)) (k:=sV (q_conv underlying3 underlying82) (k:=aV (k:=WR.done ?_))))
 exact WC.ret fun w hw => rq_ r h hF hw
abbrev r_firthref14_Get (r : List Ver) (U : List Rowb) (Γ : Gh) (v : Value) : Prop := ∃ (A0 : Option Addr), ∃ (c0 : Nat), v = .slice A0 r.length c0 ∧ U = [] ∧ r.length ≤ c0 ∧ Sl verT Γ A0 r ∧ True
theorem t_firthref14_Get {Γ : Gh} {w0 : World} {Al : Option Addr} {cl : Nat} {l : List Rec} (hl : Sl recT Γ Al l) (hlc : l.length ≤ cl) (key : ByteArray) (hkey : key.size ≤ lim) (hp : Pre [] Γ w0) {r : List Ver} (h : m_firthref14_Get l key = some r) : Calls Tryz.prog 18 #[.slice Al l.length cl, .string key] w0 (Outc Γ [] w0 (r_firthref14_Get r)) := by
 refine go_ (n := 24) (rs := [4]) (args := [.slice Al l.length cl, .string key]) func18 rfl ntmps18 results18 rfl hp fun F hF => ?_
 refine WC.rs (aV (k:=WR.done (WC.seq (WC.rs (aV (k:=WR.done (WC.block ?_)))))))
 refine WC.forI h (fun (i2 : Nat) (s : Unit) σ w => match s with | () => slots σ [(0, .slice Al l.length cl), (1, .string key), (5, ii ((i2 : Nat) : Int))] ∧ CC F Γ [] w ∧ True) ?_ ?_
 ·
  intro w hw
  exact ⟨(sl_ (by kernel_rfl)), hw, trivial⟩
 rintro f1 i2 ⟨⟩ σ w hi3 hlt4 hge5 ⟨hsl, hw, -⟩
 refine Wpt.slots hsl ?_
 refine WC.here (C := CC F Γ []) ?_ hw
 clear hw hsl
 refine WC.seq (WC.rs (mV (k:=mV (k:=sV (q_len_slice rfl underlying22) (k:=sV q_lss (k:=WR.done ?_))))))
 refine WC.cond (b := (decide (((i2 : Nat) : Int) < ((l.length : Nat) : Int)))) (by kernel_rfl) (fun hb6 => ?_) (fun hb6 => ?_)
 ·
  have hl7 := ilt hb6
  have h := hlt4 hl7
  refine WC.skip (wc_ ?_)
  refine WC.seq (WC.block (WC.rs (mV (k:=mV (k:=sV (q_ixn (i := i2) underlying22 sizeOf45 rfl rfl rfl hl7 (hl.some_ hl7)) (k:=sV (q_field_addr (i2 * 2) fld_45_0 rfl rfl (hl.some_ hl7) rfl) (k:=?_)))))))
  obtain ⟨A8, c9, hx10⟩ := hl.recT_at i2
  refine sV (q_ld (c := 0) (v := .string (gt l i2).key) (hx10 hl7).2 rfl isAgg9 rfl rfl) (k:=mV (k:=sV q_seql (k:=WR.done ?_)))
  refine ciV h (fun hb11 h => ?_) (fun hb11 h => ?_)
  ·
   refine WC.rs (mV (k:=mV (k:=sV (q_ixn (i := i2) underlying22 sizeOf45 rfl rfl rfl hl7 (hl.some_ hl7)) (k:=sV (q_field_addr (i2 * 2 + 1) fld_45_1 rfl rfl (hl.some_ hl7) rfl) (k:=sV (q_ld (c := 1) (v := .slice A8 ((gt l i2).vers).length c9) (hx10 hl7).2 rfl isAgg43 rfl rfl) (k:=aV (k:=WR.done ?_)))))))
   exact WC.ret fun w hw => re_ r [] h hF hw ⟨A8, c9, rfl, rfl, (hx10 hl7).1.2.1, (hx10 hl7).1.2.2, trivial⟩
  refine WC.skip (wc_ ?_)
  refine WC.region ?_
  refine mV (k:=sV (q_add_r (r := ((i2 + 1 : Nat) : Int)) rfl rfl rfl (ctr_len hl7 hl.le)) (k:=aV (k:=?_)))
  refine WR.nil ?_
  intro w hw
  exact ⟨hl7, (), h, (sl_ (by kernel_rfl)), hw, trivial⟩
 have h := hge5 (ige hb6)
 refine WC.exit ?_
 change WC _ _ _ _ _ _
 refine WC.rs (aV (k:=WR.done ?_))
 exact WC.ret fun w hw => re_ r [] h hF hw ⟨none, 0, rfl, rfl, (Nat.zero_le 0), (Sl.nil verT _ none), trivial⟩
theorem t_firthref05_Same {Γ : Gh} {w0 : World} {Aa : Option Addr} {ca : Nat} {a : List Ver} (ha : Sl verT Γ Aa a) (hac : a.length ≤ ca) {Ab : Option Addr} {cb : Nat} {b : List Ver} (hb : Sl verT Γ Ab b) (hbc : b.length ≤ cb) (hs : Sat Γ w0) {r : Bool} (h : m_firthref05_Same a b = some r) : Calls Tryz.prog 17 #[.slice Aa a.length ca, .slice Ab b.length cb] w0 (fun e w' => e = .returned (.bool r) ∧ Fr no w0 w') := by
 refine goq_ (n := 27) (rs := [4]) (args := [.slice Aa a.length ca, .slice Ab b.length cb]) func17 rfl ntmps17 results17 rfl hs fun F hF => ?_
 refine WC.rs (aV (k:=WR.done (WC.seq (WC.rs (mV (k:=sV (q_len_slice rfl underlying43) (k:=mV (k:=?_))))))))
 refine sV (q_len_slice rfl underlying43) (k:=sV q_neq (k:=WR.done ?_))
 refine ciV h (fun hb1 h => ?_) (fun hb1 h => ?_)
 ·
  refine WC.rs (aV (k:=WR.done ?_))
  exact WC.ret fun w hw => rq_ r h hF hw
 refine WC.skip (wc_ ?_)
 refine WC.seq (WC.rs (aV (k:=WR.done (WC.block ?_))))
 refine WC.forI h (fun (i3 : Nat) (s : Unit) σ w => match s with | () => slots σ [(0, .slice Aa a.length ca), (1, .slice Ab b.length cb), (5, ii ((i3 : Nat) : Int))] ∧ CC F Γ [] w ∧ True) ?_ ?_
 ·
  intro w hw
  exact ⟨(sl_ (by kernel_rfl)), hw, trivial⟩
 rintro f2 i3 ⟨⟩ σ w hi4 hlt5 hge6 ⟨hsl, hw, -⟩
 refine Wpt.slots hsl ?_
 refine WC.here (C := CC F Γ []) ?_ hw
 clear hw hsl
 refine WC.seq (WC.rs (mV (k:=mV (k:=sV (q_len_slice rfl underlying43) (k:=sV q_lss (k:=WR.done ?_))))))
 refine WC.cond (b := (decide (((i3 : Nat) : Int) < ((a.length : Nat) : Int)))) (by kernel_rfl) (fun hb7 => ?_) (fun hb7 => ?_)
 ·
  have hl8 := ilt hb7
  have h := hlt5 hl8
  refine WC.skip (wc_ ?_)
  refine WC.seq (WC.block (WC.seq ?_))
  refine WC.dr (by kernel_rfl) (by kernel_rfl) (fun w hw => hw.drawn _) ?_
  refine zV moV (k:=zV moV (k:=zV (q_ixn (i := i3) underlying43 sizeOf89 rfl rfl rfl hl8 (ha.some_ hl8)) (k:=?_)))
  obtain ⟨A9, c10, hx11⟩ := ha.verT_at i3
  refine zV (q_lda (c := 0) (vs := [ii (gt a i3).dot.s, ii (gt a i3).dot.n, .slice A9 ((gt a i3).past).length c10, .bool (gt a i3).gone, .string (gt a i3).val]) (hx11 hl8).2 rfl isAgg89 sizeOf89 rfl rfl rfl) (k:=zV moV (k:=zV moV (k:=?_)))
  obtain ⟨hk12, h⟩ := chk_some h
  refine zV (q_ixn (i := i3) underlying43 sizeOf89 rfl rfl rfl (of_decide_eq_true hk12) (hb.some_ (of_decide_eq_true hk12))) (k:=?_)
  obtain ⟨A13, c14, hx15⟩ := hb.verT_at i3
  refine zV (q_lda (c := 0) (vs := [ii (gt b i3).dot.s, ii (gt b i3).dot.n, .slice A13 ((gt b i3).past).length c14, .bool (gt b i3).gone, .string (gt b i3).val]) (hx15 (of_decide_eq_true hk12)).2 rfl isAgg89 sizeOf89 rfl rfl rfl) (k:=?_)
  obtain ⟨z16, hz17, h⟩ := bnd h
  refine wc rfl rfl rfl (q_call (caV call45) (fun w hw => t_firthref05_SameOne (Γ := Gh.all w) (gt a i3) (Ver.fits_mono (hx11 hl8).1 hw.sat.le_all) (gt b i3) (Ver.fits_mono (hx15 (of_decide_eq_true hk12)).1 hw.sat.le_all) (Sat.all w) hz17)) (zV q_not (k:=?_))
  refine WQ.nil ?_
  change WC _ _ _ _ _ _
  refine ciV h (fun hb18 h => ?_) (fun hb18 h => ?_)
  ·
   refine WC.rs (aV (k:=WR.done ?_))
   exact WC.ret fun w hw => rq_ r h hF hw
  refine WC.skip (wc_ ?_)
  refine WC.region ?_
  refine mV (k:=sV (q_add_r (r := ((i3 + 1 : Nat) : Int)) rfl rfl rfl (ctr_len hl8 ha.le)) (k:=aV (k:=?_)))
  refine WR.nil ?_
  intro w hw
  exact ⟨hl8, (), h, (sl_ (by kernel_rfl)), hw, trivial⟩
 have h := hge6 (ige hb7)
 refine WC.exit ?_
 change WC _ _ _ _ _ _
 refine WC.rs (aV (k:=WR.done ?_))
 exact WC.ret fun w hw => rq_ r h hF hw
theorem t_firthref06_SameRecs {Γ : Gh} {w0 : World} {Aa : Option Addr} {ca : Nat} {a : List Rec} (ha : Sl recT Γ Aa a) (hac : a.length ≤ ca) {Ab : Option Addr} {cb : Nat} {b : List Rec} (hb : Sl recT Γ Ab b) (hbc : b.length ≤ cb) (hs : Sat Γ w0) {r : Bool} (h : m_firthref06_SameRecs a b = some r) : Calls Tryz.prog 19 #[.slice Aa a.length ca, .slice Ab b.length cb] w0 (fun e w' => e = .returned (.bool r) ∧ Fr no w0 w') := by
 refine goq_ (n := 42) (rs := [4]) (args := [.slice Aa a.length ca, .slice Ab b.length cb]) func19 rfl ntmps19 results19 rfl hs fun F hF => ?_
 refine WC.rs (aV (k:=WR.done (WC.seq (WC.rs (mV (k:=sV (q_len_slice rfl underlying22) (k:=mV (k:=?_))))))))
 refine sV (q_len_slice rfl underlying22) (k:=sV q_neq (k:=WR.done ?_))
 refine ciV h (fun hb1 h => ?_) (fun hb1 h => ?_)
 ·
  refine WC.rs (aV (k:=WR.done ?_))
  exact WC.ret fun w hw => rq_ r h hF hw
 refine WC.skip (wc_ ?_)
 refine WC.seq (WC.rs (aV (k:=WR.done (WC.block ?_))))
 refine WC.forI h (fun (i3 : Nat) (s : Unit) σ w => match s with | () => slots σ [(0, .slice Aa a.length ca), (1, .slice Ab b.length cb), (5, ii ((i3 : Nat) : Int))] ∧ CC F Γ [] w ∧ True) ?_ ?_
 ·
  intro w hw
  exact ⟨(sl_ (by kernel_rfl)), hw, trivial⟩
 rintro f2 i3 ⟨⟩ σ w hi4 hlt5 hge6 ⟨hsl, hw, -⟩
 refine Wpt.slots hsl ?_
 refine WC.here (C := CC F Γ []) ?_ hw
 clear hw hsl
 refine WC.seq (WC.rs (mV (k:=mV (k:=sV (q_len_slice rfl underlying22) (k:=sV q_lss (k:=WR.done ?_))))))
 refine WC.cond (b := (decide (((i3 : Nat) : Int) < ((a.length : Nat) : Int)))) (by kernel_rfl) (fun hb7 => ?_) (fun hb7 => ?_)
 ·
  have hl8 := ilt hb7
  have h := hlt5 hl8
  refine WC.skip (wc_ ?_)
  refine WC.seq (WC.block (WC.seq ?_))
  refine WC.dr (by kernel_rfl) (by kernel_rfl) (fun w hw => hw.drawn _) ?_
  refine zV moV (k:=zV moV (k:=zV (q_ixn (i := i3) underlying22 sizeOf45 rfl rfl rfl hl8 (ha.some_ hl8)) (k:=zV (q_field_addr (i3 * 2) fld_45_0 rfl rfl (ha.some_ hl8) rfl) (k:=?_))))
  obtain ⟨A9, c10, hx11⟩ := ha.recT_at i3
  refine zV (q_ld (c := 0) (v := .string (gt a i3).key) (hx11 hl8).2 rfl isAgg9 rfl rfl) (k:=zV moV (k:=zV moV (k:=?_)))
  obtain ⟨hk12, h⟩ := chk_some h
  refine zV (q_ixn (i := i3) underlying22 sizeOf45 rfl rfl rfl (of_decide_eq_true hk12) (hb.some_ (of_decide_eq_true hk12))) (k:=zV (q_field_addr (i3 * 2) fld_45_0 rfl rfl (hb.some_ (of_decide_eq_true hk12)) rfl) (k:=?_))
  obtain ⟨A13, c14, hx15⟩ := hb.recT_at i3
  refine zV (q_ld (c := 0) (v := .string (gt b i3).key) (hx15 (of_decide_eq_true hk12)).2 rfl isAgg9 rfl rfl) (k:=zV q_sneq (k:=zV moV (k:=wG0 (h:=fun hg16 => moV) (k:=wG0 (h:=fun hg17 => moV) (k:=wG0 (h:=fun hg18 => q_ixn (i := i3) underlying22 sizeOf45 rfl (grV hg18) (grV hg18) hl8 (ha.some_ hl8)) (k:=wG0 (h:=fun hg19 => q_field_addr (i3 * 2 + 1) fld_45_1 rfl (grV hg19) (ha.some_ hl8) rfl) (k:=wG0 (h:=fun hg20 => q_ld (c := 1) (v := .slice A9 ((gt a i3).vers).length c10) (hx11 hl8).2 rfl isAgg43 (grV hg20) rfl) (k:=?_))))))))
  refine wG0 (h:=fun hg21 => moV) (k:=wG0 (h:=fun hg22 => moV) (k:=wG0 (h:=fun hg23 => q_ixn (i := i3) underlying22 sizeOf45 rfl (grV hg23) (grV hg23) (of_decide_eq_true hk12) (hb.some_ (of_decide_eq_true hk12))) (k:=wG0 (h:=fun hg24 => q_field_addr (i3 * 2 + 1) fld_45_1 rfl (grV hg24) (hb.some_ (of_decide_eq_true hk12)) rfl) (k:=wG0 (h:=fun hg25 => q_ld (c := 1) (v := .slice A13 ((gt b i3).vers).length c14) (hx15 (of_decide_eq_true hk12)).2 rfl isAgg43 (grV hg25) rfl) (k:=?_)))))
  obtain ⟨z27, hz28, h⟩ := bnd h
  refine wg0 rfl rfl rfl rfl rfl (fun hg26 => (q_call (call_run call17 rfl rfl (args2 (grV hg26) (grV hg26))) (fun w hw => t_firthref05_Same (Γ := Gh.all w) ((hx11 hl8).1.2.2.mono hw.sat.le_all) (hx11 hl8).1.2.1 ((hx15 (of_decide_eq_true hk12)).1.2.2.mono hw.sat.le_all) (hx15 (of_decide_eq_true hk12)).1.2.1 (Sat.all w) (gc_of hz28 hg26)))) (wG0 (h:=fun hg29 => q_not rfl (grV hg29)) (k:=zV pkO (k:=?_)))
  refine WQ.nil ?_
  change WC _ _ _ _ _ _
  refine ciV h (fun hb30 h => ?_) (fun hb30 h => ?_)
  ·
   refine WC.rs (aV (k:=WR.done ?_))
   exact WC.ret fun w hw => rq_ r h hF hw
  refine WC.skip (wc_ ?_)
  refine WC.region ?_
  refine mV (k:=sV (q_add_r (r := ((i3 + 1 : Nat) : Int)) rfl rfl rfl (ctr_len hl8 ha.le)) (k:=aV (k:=?_)))
  refine WR.nil ?_
  intro w hw
  exact ⟨hl8, (), h, (sl_ (by kernel_rfl)), hw, trivial⟩
 have h := hge6 (ige hb7)
 refine WC.exit ?_
 change WC _ _ _ _ _ _
 refine WC.rs (aV (k:=WR.done ?_))
 exact WC.ret fun w hw => rq_ r h hF hw
theorem t_firthlaw15_NodeReads {Γ : Gh} {w0 : World} {Alist : Option Addr} {clist : Nat} {list : List Rec} (hlist : Sl recT Γ Alist list) (hlistc : list.length ≤ clist) (key : ByteArray) (hkey : key.size ≤ lim) (part : Int) (hpart : I64 part) (hs : Sat Γ w0) {r : Bool} (h : m_firthlaw15_NodeReads list key part = some r) : Calls Tryz.prog 3 #[.slice Alist list.length clist, .string key, ii part] w0 (fun e w' => e = .returned (.bool r) ∧ Fr no w0 w') := by
 refine goq_ (n := 268) (rs := [6]) (args := [.slice Alist list.length clist, .string key, ii part]) func3 rfl ntmps3 results3 rfl hs fun F hF => ?_
 refine WC.rs (aV (k:=WR.done (WC.rs (mV (k:=aV (k:=WR.done (WC.seq ?_)))))))
 refine WC.rs ?_
 obtain ⟨z1, hz2, h⟩ := bnd h
 refine vqV (caV call7) (fun w hw => t_firthlaw15_awake (Γ := Gh.all w)  (Sat.all w) hz2) (k:=sV q_not (k:=mV (k:=vG0 (h:=fun hg3 => moV) (k:=?_))))
 obtain ⟨z5, hz6, h⟩ := bnd h
 refine vg0 rfl rfl rfl rfl rfl (fun hg4 => (q_call (call_run call8 rfl rfl (args1 (grV hg4))) (fun w hw => t_firthlaw15_plain (Γ := Gh.all w) (hlist.mono hw.sat.le_all) hlistc (Sat.all w) (gc_of hz6 hg4)))) (vG0 (h:=fun hg7 => q_not rfl (grV hg7)) (k:=sV pkO (k:=mV (k:=vG0 (h:=fun hg8 => moV) (k:=vG0 (h:=fun hg9 => q_seql rfl (grV hg9)) (k:=sV pkO (k:=mV (k:=?_))))))))
 refine vG0 (h:=fun hg10 => moV) (k:=vG0 (h:=fun hg11 => q_len_str rfl underlying9 (grV hg11)) (k:=vG0 (h:=fun hg12 => q_gtr rfl (grV hg12)) (k:=sV pkO (k:=mV (k:=vG0 (h:=fun hg13 => moV) (k:=vG0 (h:=fun hg14 => q_lss rfl (grV hg14)) (k:=sV pkO (k:=?_))))))))
 refine mV (k:=vG0 (h:=fun hg15 => moV) (k:=vG0 (h:=fun hg16 => q_lss rfl (grV hg16)) (k:=sV pkO (k:=WR.done ?_))))
 refine ciV h (fun hb17 h => ?_) (fun hb17 h => ?_)
 ·
  refine WC.rs ?_
  obtain ⟨z18, hz19, h⟩ := bnd h
  refine vqV (caV call7) (fun w hw => t_firthlaw15_awake (Γ := Gh.all w)  (Sat.all w) hz19) (k:=aV (k:=WR.done ?_))
  exact WC.ret fun w hw => rq_ r h hF hw
 refine WC.skip (wc_ ?_)
 refine WC.rs ?_
 obtain ⟨z20, hz21, h⟩ := bnd h
 refine ecV [] (caV call9) (fun w hp => t_disk_New 16777216 (show I64 16777216 by decide) hp hz21) ?_
 rintro Γ22 U24 v25 hl23 ⟨g26, row27, rfl, rfl, hr28, _⟩
 refine cwV 45 [_] (aV (k:=WR.done (WC.rs (mV (k:=?_)))))
 obtain ⟨z29, hz30, h⟩ := bnd h
 refine vqV (caV call11) (fun w hw => t_firthlaw15_at (Γ := Gh.all w) 3 (show I64 3 by decide) (Sat.all w) hz30) (k:=?_)
 obtain ⟨hk31, h⟩ := chk_some h
 obtain ⟨hk32, h⟩ := chk_some h
 obtain ⟨z33, hz34, h⟩ := bnd h
 refine ecV [0] (caV call10) (fun w hp => t_node_Open hr28 z29 ⟨(i64b_of hk31), (i64b_of hk32)⟩ 500 (show I64 500 by decide) 3 (show I64 3 by decide) hp hz34) ?_
 rintro Γ35 U37 v38 hl36 ⟨row39, g41, row42, rfl, rfl, hr40, hr43, hr44, _⟩
 refine cwV 49 [_, _] (mV (k:=sV exV (k:=sV exV (k:=aU (v := optp z33.2.1 g41) (k:=aV (k:=WR.done (WC.seq ?_)))))))
 refine WC.rs (mU (v := optp z33.2.1 g41) (k:=sV (q_opt_eql underlying27 rfl rfl rfl) (k:=mV (k:=vG0 (h:=fun hg45 => moV) (k:=vG0 (h:=fun hg46 => q_neq rfl (grV hg46)) (k:=sV pkO (k:=mV (k:=?_))))))))
 refine vG0 (h:=fun hg47 => q_move (v := optp z33.2.1 g41) rfl (by kernel_rfl)) (k:=?_)
 refine (Bool.eq_false_or_eq_true (!((Option.isNone z33.2.1) || (z33.2.2 != 0)))).elim (fun hb48 => ?_) (fun hb48 => ?_)
 ·
  have h := bt hb48 h
  obtain ⟨z49, hz50, h⟩ := bnd h
  have ho51 := optob_some hr43 hz50
  refine WR.sat (c0 := true) (g := ((Option.isNone z33.2.1) || (z33.2.2 != 0))) rfl rfl rfl hb48 ?_
  obtain ⟨z52, hz53, h⟩ := bnd h
  refine ecV [1, 0] (call_run call12 rfl rfl (args1 (optp_some (grV hb48) hz50))) (fun w hp => t_node_Node_Intact ho51 hr40 hp hz53) ?_
  rintro Γ54 U56 v57 hl55 ⟨rfl, rfl, _⟩
  refine cwV 60 [_, _] (sV (q_pick_f (v := .bool z52) rfl rfl (not_t hb48) (by kernel_rfl)) (k:=mV (k:=vG0 (h:=fun hg58 => q_move (v := (pq g41)) rfl (optp_some rfl hz50)) (k:=?_))))
  obtain ⟨z60, hz61, h⟩ := bnd h
  refine vg0 rfl rfl rfl rfl rfl (fun hg59 => (q_call (caV call11) (fun w hw => t_firthlaw15_at (Γ := Gh.all w) 0 (show I64 0 by decide) (Sat.all w) (gc_of hz61 hg59)))) ?_
  obtain ⟨z63, hz64, h⟩ := bnd h
  refine vg0 rfl rfl rfl rfl rfl (fun hg62 => (q_call (caV call11) (fun w hw => t_firthlaw15_at (Γ := Gh.all w) 3 (show I64 3 by decide) (Sat.all w) (gc_of hz64 hg62)))) (vG0 (h:=fun hg65 => moV) (k:=vG0 (h:=fun hg66 => q_build' (v := .agg #[ii 4, ii z60.site, ii z60.node, ii z63.site, ii z63.node, ii 0, ii 0, ii 0, ii 0, .string key, .slice none 0 0, .slice none 0 0, .slice none 0 0, .slice none 0 0, .slice none 0 0]) rfl (bargs4 rfl (grV hg66) (grV hg66) (grV hg66)) (fun w => by kernel_rfl)) (k:=?_)))
  refine (Bool.eq_false_or_eq_true (!z52)).elim (fun hb67 => ?_) (fun hb67 => ?_)
  ·
   have h := bt hb67 h
   refine WR.sat (c0 := true) (g := z52) rfl rfl rfl hb67 ?_
   obtain ⟨hk68, h⟩ := chk_some h
   obtain ⟨hk69, h⟩ := chk_some h
   obtain ⟨hk70, h⟩ := chk_some h
   obtain ⟨hk71, h⟩ := chk_some h
   obtain ⟨z72, hz73, h⟩ := bnd h
   refine ecV [0, 0] (call_run call13 rfl rfl (args2 (grV hb67) (grV hb67))) (fun w hp => t_node_Node_Handle (ho51.mono hl55) (Am10 := none) (cm10 := 0) (Am11 := none) (cm11 := 0) (Am12 := none) (cm12 := 0) (Am13 := none) (cm13 := 0) (Am14 := none) (cm14 := 0) (⟨4, (⟨z60.site, z60.node⟩ : Adr), (⟨z63.site, z63.node⟩ : Adr), 0, 0, 0, 0, key, [], [], [], [], []⟩ : Dapi_Msg) ⟨(show I64 4 by decide), (i64b_of hk68), (i64b_of hk69), (i64b_of hk70), (i64b_of hk71), (show I64 0 by decide), (show I64 0 by decide), (show I64 0 by decide), (show I64 0 by decide), hkey, ⟨Nat.zero_le _, Sl.nil _ _ _⟩, ⟨Nat.zero_le _, Sl.nil _ _ _⟩, ⟨Nat.zero_le _, Sl.nil _ _ _⟩, ⟨Nat.zero_le _, Sl.nil _ _ _⟩, ⟨Nat.zero_le _, Sl.nil _ _ _⟩⟩ (hr40.mono hl55) hp hz73) ?_
   rintro Γ74 U76 v77 hl75 ⟨row78, row80, A82, c83, row84, rfl, rfl, hr79, hr81, hr85, _⟩
   refine cwV 68 [_, _, _] ?_
   refine WR.sat (c0 := true) (g := z52) rfl rfl rfl hb67 ?_
   refine sV (q_len_slice rfl underlying34) (k:=?_)
   refine WR.sat (c0 := true) (g := z52) rfl rfl rfl hb67 ?_
   refine sV q_neq (k:=sV (q_pick_f (v := .bool (((z72.2.2.length : Nat) : Int) != 0)) rfl rfl (not_t hb67) (by kernel_rfl)) (k:=WR.done ?_))
   refine ciV h (fun hb86 h => ?_) (fun hb86 h => ?_)
   ·
    refine WC.rs (aV (k:=WR.done ?_))
    exact WC.ret fun w hw => rq_ r h hF hw
   refine WC.skip (wc_ ?_)
   refine WC.rs (sV (q_move (v := (pq g41)) rfl (optp_some rfl hz50)) (k:=?_))
   obtain ⟨z87, hz88, h⟩ := bnd h
   refine vqV (caV call11) (fun w hw => t_firthlaw15_at (Γ := Gh.all w) 0 (show I64 0 by decide) (Sat.all w) hz88) (k:=?_)
   obtain ⟨z89, hz90, h⟩ := bnd h
   refine vqV (caV call11) (fun w hw => t_firthlaw15_at (Γ := Gh.all w) 3 (show I64 3 by decide) (Sat.all w) hz90) (k:=mV (k:=sV (q_build' (v := .agg #[ii 17, ii z87.site, ii z87.node, ii z89.site, ii z89.node, ii part, ii 2, ii 0, ii 0, .string ByteArray.empty, .slice none 0 0, .slice none 0 0, .slice none 0 0, .slice none 0 0, .slice none 0 0]) rfl (bargs5 rfl rfl rfl rfl rfl) (fun w => by kernel_rfl)) (k:=?_)))
   obtain ⟨hk91, h⟩ := chk_some h
   obtain ⟨hk92, h⟩ := chk_some h
   obtain ⟨hk93, h⟩ := chk_some h
   obtain ⟨hk94, h⟩ := chk_some h
   obtain ⟨z95, hz96, h⟩ := bnd h
   refine ecV [0, 0] (caV call13) (fun w hp => t_node_Node_Handle hr79 (Am10 := none) (cm10 := 0) (Am11 := none) (cm11 := 0) (Am12 := none) (cm12 := 0) (Am13 := none) (cm13 := 0) (Am14 := none) (cm14 := 0) (⟨17, (⟨z87.site, z87.node⟩ : Adr), (⟨z89.site, z89.node⟩ : Adr), part, 2, 0, 0, ByteArray.empty, [], [], [], [], []⟩ : Dapi_Msg) ⟨(show I64 17 by decide), (i64b_of hk91), (i64b_of hk92), (i64b_of hk93), (i64b_of hk94), hpart, (show I64 2 by decide), (show I64 0 by decide), (show I64 0 by decide), (show (ByteArray.empty : ByteArray).size ≤ lim by decide), ⟨Nat.zero_le _, Sl.nil _ _ _⟩, ⟨Nat.zero_le _, Sl.nil _ _ _⟩, ⟨Nat.zero_le _, Sl.nil _ _ _⟩, ⟨Nat.zero_le _, Sl.nil _ _ _⟩, ⟨Nat.zero_le _, Sl.nil _ _ _⟩⟩ hr81 hp hz96) ?_
   rintro Γ97 U99 v100 hl98 ⟨row101, row103, A105, c106, row107, rfl, rfl, hr102, hr104, hr108, _⟩
   refine cwV 77 [_, _, _, _] (aV (k:=WR.done (WC.seq (WC.rs (mV (k:=sV (q_len_slice rfl underlying34) (k:=sV q_neq (k:=?_))))))))
   refine mV (k:=vG0 (h:=fun hg109 => q_move (v := (pq g41)) rfl (optp_some rfl hz50)) (k:=?_))
   refine (Bool.eq_false_or_eq_true (!(((z95.2.2.length : Nat) : Int) != 0))).elim (fun hb110 => ?_) (fun hb110 => ?_)
   ·
    have h := bt hb110 h
    refine WR.sat (c0 := true) (g := (((z95.2.2.length : Nat) : Int) != 0)) rfl rfl rfl hb110 ?_
    obtain ⟨z111, hz112, h⟩ := bnd h
    refine ecV [0, 0] (call_run call12 rfl rfl (args1 (grV hb110))) (fun w hp => t_node_Node_Intact hr102 hr104 hp hz112) ?_
    rintro Γ113 U115 v116 hl114 ⟨rfl, rfl, _⟩
    refine cwV 83 [_, _, _, _] (sV (q_pick_f (v := .bool z111) rfl rfl (not_t hb110) (by kernel_rfl)) (k:=WR.done ?_))
    refine ciV h (fun hb117 h => ?_) (fun hb117 h => ?_)
    ·
     refine WC.rs (aV (k:=WR.done ?_))
     exact WC.ret fun w hw => rq_ r h hF hw
    refine WC.skip (wc_ ?_)
    refine WC.rs (sV (q_move (v := (pq g41)) rfl (optp_some rfl hz50)) (k:=?_))
    obtain ⟨z118, hz119, h⟩ := bnd h
    refine vqV (caV call11) (fun w hw => t_firthlaw15_at (Γ := Gh.all w) 0 (show I64 0 by decide) (Sat.all w) hz119) (k:=?_)
    obtain ⟨z120, hz121, h⟩ := bnd h
    refine vqV (caV call11) (fun w hw => t_firthlaw15_at (Γ := Gh.all w) 3 (show I64 3 by decide) (Sat.all w) hz121) (k:=mV (k:=sV (q_build' (v := .agg #[ii 17, ii z118.site, ii z118.node, ii z120.site, ii z120.node, ii part, ii 3, ii 0, ii 0, .string ByteArray.empty, .slice none 0 0, .slice none 0 0, .slice none 0 0, .slice none 0 0, .slice none 0 0]) rfl (bargs5 rfl rfl rfl rfl rfl) (fun w => by kernel_rfl)) (k:=?_)))
    obtain ⟨hk122, h⟩ := chk_some h
    obtain ⟨hk123, h⟩ := chk_some h
    obtain ⟨hk124, h⟩ := chk_some h
    obtain ⟨hk125, h⟩ := chk_some h
    obtain ⟨z126, hz127, h⟩ := bnd h
    refine ecV [0, 0] (caV call13) (fun w hp => t_node_Node_Handle (hr102.mono hl114) (Am10 := none) (cm10 := 0) (Am11 := none) (cm11 := 0) (Am12 := none) (cm12 := 0) (Am13 := none) (cm13 := 0) (Am14 := none) (cm14 := 0) (⟨17, (⟨z118.site, z118.node⟩ : Adr), (⟨z120.site, z120.node⟩ : Adr), part, 3, 0, 0, ByteArray.empty, [], [], [], [], []⟩ : Dapi_Msg) ⟨(show I64 17 by decide), (i64b_of hk122), (i64b_of hk123), (i64b_of hk124), (i64b_of hk125), hpart, (show I64 3 by decide), (show I64 0 by decide), (show I64 0 by decide), (show (ByteArray.empty : ByteArray).size ≤ lim by decide), ⟨Nat.zero_le _, Sl.nil _ _ _⟩, ⟨Nat.zero_le _, Sl.nil _ _ _⟩, ⟨Nat.zero_le _, Sl.nil _ _ _⟩, ⟨Nat.zero_le _, Sl.nil _ _ _⟩, ⟨Nat.zero_le _, Sl.nil _ _ _⟩⟩ (hr104.mono hl114) hp hz127) ?_
    rintro Γ128 U130 v131 hl129 ⟨row132, row134, A136, c137, row138, rfl, rfl, hr133, hr135, hr139, _⟩
    refine cwV 90 [_, _, _, _, _] (aV (k:=WR.done (WC.seq (WC.rs (mV (k:=sV (q_len_slice rfl underlying34) (k:=sV q_neq (k:=?_))))))))
    refine mV (k:=vG0 (h:=fun hg140 => moV) (k:=?_))
    obtain ⟨hk142, h⟩ := chk_some h
    refine vG0 (h:=fun hg141 => q_ixn (i := 0) underlying34 sizeOf40 rfl (grV hg141) rfl (of_decide_eq_true (imp_of hk142 hg141)) (hr139.some_ (of_decide_eq_true (imp_of hk142 hg141)))) (k:=vG0 (h:=fun hg143 => q_field_addr (0 * 15 + 6) fld_40_4 rfl (grV hg143) (hr139.some_ (of_decide_eq_true (imp_of hk142 hg143))) rfl) (k:=?_))
    obtain ⟨A145, c146, A147, c148, A149, c150, A151, c152, A153, c154, hx155⟩ := hr139.dapi_MsgT_at 0
    refine vG0 (h:=fun hg144 => q_ldo (c := 6) (v := ii (gt z126.2.2 0).n) (i := 2) rfl (hx155 (of_decide_eq_true (imp_of hk142 hg144))).2 rfl isAgg2 (grV hg144) rfl) (k:=vG0 (h:=fun hg156 => q_neq rfl (grV hg156)) (k:=sV pkO (k:=mV (k:=vG0 (h:=fun hg157 => moV) (k:=?_)))))
    obtain ⟨hk159, h⟩ := chk_some h
    refine vG0 (h:=fun hg158 => q_ixn (i := 0) underlying34 sizeOf40 rfl (grV hg158) rfl (of_decide_eq_true (imp_of hk159 hg158)) (hr139.some_ (of_decide_eq_true (imp_of hk159 hg158)))) (k:=vG0 (h:=fun hg160 => q_field_addr (0 * 15) fld_40_0 rfl (grV hg160) (hr139.some_ (of_decide_eq_true (imp_of hk159 hg160))) rfl) (k:=vG0 (h:=fun hg161 => q_ldo (c := 0) (v := ii (gt z126.2.2 0).kind) (i := 2) rfl (hx155 (of_decide_eq_true (imp_of hk159 hg161))).2 rfl isAgg3 (grV hg161) rfl) (k:=vG0 (h:=fun hg162 => q_neq rfl (grV hg162)) (k:=sV pkO (k:=mV (k:=vG0 (h:=fun hg163 => moV) (k:=?_)))))))
    obtain ⟨hk165, h⟩ := chk_some h
    refine vG0 (h:=fun hg164 => q_ixn (i := 0) underlying34 sizeOf40 rfl (grV hg164) rfl (of_decide_eq_true (imp_of hk165 hg164)) (hr139.some_ (of_decide_eq_true (imp_of hk165 hg164)))) (k:=vG0 (h:=fun hg166 => q_field_addr (0 * 15 + 5) fld_40_3 rfl (grV hg166) (hr139.some_ (of_decide_eq_true (imp_of hk165 hg166))) rfl) (k:=vG0 (h:=fun hg167 => q_ldo (c := 5) (v := ii (gt z126.2.2 0).id) (i := 2) rfl (hx155 (of_decide_eq_true (imp_of hk165 hg167))).2 rfl isAgg2 (grV hg167) rfl) (k:=vG0 (h:=fun hg168 => moV) (k:=vG0 (h:=fun hg169 => q_neq rfl (grV hg169) (grV hg169)) (k:=sV pkO (k:=mV (k:=vG0 (h:=fun hg170 => q_move (v := (pq g41)) rfl (optp_some rfl hz50)) (k:=?_))))))))
    refine (Bool.eq_false_or_eq_true (!((((((z126.2.2.length : Nat) : Int) != 1) || ((gt z126.2.2 0).n != 3)) || ((gt z126.2.2 0).kind != 2)) || ((gt z126.2.2 0).id != part)))).elim (fun hb171 => ?_) (fun hb171 => ?_)
    ·
     have h := bt hb171 h
     refine WR.sat (c0 := true) (g := ((((((z126.2.2.length : Nat) : Int) != 1) || ((gt z126.2.2 0).n != 3)) || ((gt z126.2.2 0).kind != 2)) || ((gt z126.2.2 0).id != part))) rfl rfl rfl hb171 ?_
     obtain ⟨z172, hz173, h⟩ := bnd h
     refine ecV [0, 0] (call_run call12 rfl rfl (args1 (grV hb171))) (fun w hp => t_node_Node_Intact hr133 hr135 hp hz173) ?_
     rintro Γ174 U176 v177 hl175 ⟨rfl, rfl, _⟩
     refine cwV 118 [_, _, _, _, _] ?_
     refine WR.sat (c0 := true) (g := ((((((z126.2.2.length : Nat) : Int) != 1) || ((gt z126.2.2 0).n != 3)) || ((gt z126.2.2 0).kind != 2)) || ((gt z126.2.2 0).id != part))) rfl rfl rfl hb171 ?_
     refine sV q_not (k:=sV (q_pick_f (v := .bool (!z172)) rfl rfl (not_t hb171) (by kernel_rfl)) (k:=WR.done ?_))
     refine ciV h (fun hb178 h => ?_) (fun hb178 h => ?_)
     ·
      refine WC.rs (aV (k:=WR.done ?_))
      exact WC.ret fun w hw => rq_ r h hF hw
     refine WC.skip (wc_ ?_)
     refine WC.rs (sV (q_move (v := (pq g41)) rfl (optp_some rfl hz50)) (k:=mV (k:=?_)))
     obtain ⟨z179, hz180, h⟩ := bnd h
     refine ecV [] (caV call14) (fun w hp => t_firthlaw15_put 3 (show I64 3 by decide) (hlist.mono (((((((hl23.trans hl36).trans hl55).trans hl75).trans hl98).trans hl114).trans hl129).trans hl175)) hlistc hp hz180) ?_
     rintro Γ181 U183 v184 hl182 ⟨A185, c186, A187, c188, A189, c190, A191, c192, A193, c194, rfl, rfl, hr195, _⟩
     refine cwV 123 [_, _, _, _, _] ?_
     obtain ⟨z196, hz197, h⟩ := bnd h
     refine ecV [0, 0] (caV call13) (fun w hp => t_node_Node_Handle (hr133.mono (hl175.trans hl182)) z179 hr195 (hr135.mono (hl175.trans hl182)) hp hz197) ?_
     rintro Γ198 U200 v201 hl199 ⟨row202, row204, A206, c207, row208, rfl, rfl, hr203, hr205, hr209, _⟩
     refine cwV 124 [_, _, _, _, _, _] (WR.done (WC.rs (sV (q_move (v := (pq g41)) rfl (optp_some rfl hz50)) (k:=?_))))
     obtain ⟨z210, hz211, h⟩ := bnd h
     refine ecV [0] (caV call15) (fun w hp => t_node_Node_Recs hr203 (-1) (show I64 (-1) by decide) hp hz211) ?_
     rintro Γ212 U214 v215 hl213 ⟨A216, c217, row218, rfl, rfl, hr219, _⟩
     refine cwV 126 [_, _, _, _, _, _, _] (aV (k:=WR.done (WC.rs (sV (q_move (v := (pq g41)) rfl (optp_some rfl hz50)) (k:=?_)))))
     obtain ⟨z220, hz221, h⟩ := bnd h
     refine vqV (caV call11) (fun w hw => t_firthlaw15_at (Γ := Gh.all w) 0 (show I64 0 by decide) (Sat.all w) hz221) (k:=?_)
     obtain ⟨z222, hz223, h⟩ := bnd h
     refine vqV (caV call11) (fun w hw => t_firthlaw15_at (Γ := Gh.all w) 3 (show I64 3 by decide) (Sat.all w) hz223) (k:=mV (k:=mV (k:=sV (q_build' (v := .agg #[ii 4, ii z220.site, ii z220.node, ii z222.site, ii z222.node, ii part, ii 0, ii 0, ii 0, .string key, .slice none 0 0, .slice none 0 0, .slice none 0 0, .slice none 0 0, .slice none 0 0]) rfl (bargs5 rfl rfl rfl rfl rfl) (fun w => by kernel_rfl)) (k:=?_))))
     obtain ⟨hk224, h⟩ := chk_some h
     obtain ⟨hk225, h⟩ := chk_some h
     obtain ⟨hk226, h⟩ := chk_some h
     obtain ⟨hk227, h⟩ := chk_some h
     obtain ⟨z228, hz229, h⟩ := bnd h
     refine ecV [0, 1] (caV call13) (fun w hp => t_node_Node_Handle (hr203.mono hl213) (Am10 := none) (cm10 := 0) (Am11 := none) (cm11 := 0) (Am12 := none) (cm12 := 0) (Am13 := none) (cm13 := 0) (Am14 := none) (cm14 := 0) (⟨4, (⟨z220.site, z220.node⟩ : Adr), (⟨z222.site, z222.node⟩ : Adr), part, 0, 0, 0, key, [], [], [], [], []⟩ : Dapi_Msg) ⟨(show I64 4 by decide), (i64b_of hk224), (i64b_of hk225), (i64b_of hk226), (i64b_of hk227), hpart, (show I64 0 by decide), (show I64 0 by decide), (show I64 0 by decide), hkey, ⟨Nat.zero_le _, Sl.nil _ _ _⟩, ⟨Nat.zero_le _, Sl.nil _ _ _⟩, ⟨Nat.zero_le _, Sl.nil _ _ _⟩, ⟨Nat.zero_le _, Sl.nil _ _ _⟩, ⟨Nat.zero_le _, Sl.nil _ _ _⟩⟩ (hr205.mono hl213) hp hz229) ?_
     rintro Γ230 U232 v233 hl231 ⟨row234, row236, A238, c239, row240, rfl, rfl, hr235, hr237, hr241, _⟩
     refine cwV 133 [_, _, _, _, _, _, _, _] (aV (k:=WR.done (WC.rs (sV (q_move (v := (pq g41)) rfl (optp_some rfl hz50)) (k:=?_)))))
     obtain ⟨z242, hz243, h⟩ := bnd h
     refine vqV (caV call11) (fun w hw => t_firthlaw15_at (Γ := Gh.all w) 7 (show I64 7 by decide) (Sat.all w) hz243) (k:=?_)
     obtain ⟨z244, hz245, h⟩ := bnd h
     refine vqV (caV call11) (fun w hw => t_firthlaw15_at (Γ := Gh.all w) 3 (show I64 3 by decide) (Sat.all w) hz245) (k:=mV (k:=mV (k:=sV (q_build' (v := .agg #[ii 6, ii z242.site, ii z242.node, ii z244.site, ii z244.node, ii part, ii part, ii 0, ii 0, .string ByteArray.empty, .slice none 0 0, .slice none 0 0, .slice none 0 0, .slice none 0 0, .slice none 0 0]) rfl (bargs5 rfl rfl rfl rfl rfl) (fun w => by kernel_rfl)) (k:=?_))))
     obtain ⟨hk246, h⟩ := chk_some h
     obtain ⟨hk247, h⟩ := chk_some h
     obtain ⟨hk248, h⟩ := chk_some h
     obtain ⟨hk249, h⟩ := chk_some h
     obtain ⟨z250, hz251, h⟩ := bnd h
     refine ecV [0, 0] (caV call13) (fun w hp => t_node_Node_Handle hr235 (Am10 := none) (cm10 := 0) (Am11 := none) (cm11 := 0) (Am12 := none) (cm12 := 0) (Am13 := none) (cm13 := 0) (Am14 := none) (cm14 := 0) (⟨6, (⟨z242.site, z242.node⟩ : Adr), (⟨z244.site, z244.node⟩ : Adr), part, part, 0, 0, ByteArray.empty, [], [], [], [], []⟩ : Dapi_Msg) ⟨(show I64 6 by decide), (i64b_of hk246), (i64b_of hk247), (i64b_of hk248), (i64b_of hk249), hpart, hpart, (show I64 0 by decide), (show I64 0 by decide), (show (ByteArray.empty : ByteArray).size ≤ lim by decide), ⟨Nat.zero_le _, Sl.nil _ _ _⟩, ⟨Nat.zero_le _, Sl.nil _ _ _⟩, ⟨Nat.zero_le _, Sl.nil _ _ _⟩, ⟨Nat.zero_le _, Sl.nil _ _ _⟩, ⟨Nat.zero_le _, Sl.nil _ _ _⟩⟩ hr237 hp hz251) ?_
     rintro Γ252 U254 v255 hl253 ⟨row256, row258, A260, c261, row262, rfl, rfl, hr257, hr259, hr263, _⟩
     refine cwV 140 [_, _, _, _, _, _, _, _, _] (aV (k:=WR.done (WC.seq (WC.seq ?_))))
     refine WC.dr (by kernel_rfl) (by kernel_rfl) (fun w hw => hw.drawn _) ?_
     refine zV moV (k:=zV (q_len_slice rfl underlying34) (k:=zV q_neq (k:=zV moV (k:=wG0 (h:=fun hg264 => moV) (k:=wG0 (h:=fun hg265 => q_len_slice rfl underlying34 (grV hg265)) (k:=wG0 (h:=fun hg266 => q_neq rfl (grV hg266)) (k:=zV pkO (k:=?_))))))))
     refine zV moV (k:=wG0 (h:=fun hg267 => moV) (k:=?_))
     obtain ⟨hk269, h⟩ := chk_some h
     refine wG0 (h:=fun hg268 => q_ixn (i := 0) underlying34 sizeOf40 rfl (grV hg268) rfl (of_decide_eq_true (imp_of hk269 hg268)) ((hr241.mono hl253).some_ (of_decide_eq_true (imp_of hk269 hg268)))) (k:=wG0 (h:=fun hg270 => q_field_addr (0 * 15) fld_40_0 rfl (grV hg270) ((hr241.mono hl253).some_ (of_decide_eq_true (imp_of hk269 hg270))) rfl) (k:=?_))
     obtain ⟨A272, c273, A274, c275, A276, c277, A278, c279, A280, c281, hx282⟩ := (hr241.mono hl253).dapi_MsgT_at 0
     refine wG0 (h:=fun hg271 => q_ldo (c := 0) (v := ii (gt z228.2.2 0).kind) (i := 3) rfl (hx282 (of_decide_eq_true (imp_of hk269 hg271))).2 rfl isAgg3 (grV hg271) rfl) (k:=wG0 (h:=fun hg283 => q_neq rfl (grV hg283)) (k:=zV pkO (k:=zV moV (k:=wG0 (h:=fun hg284 => moV) (k:=?_)))))
     obtain ⟨hk286, h⟩ := chk_some h
     refine wG0 (h:=fun hg285 => q_ixn (i := 0) underlying34 sizeOf40 rfl (grV hg285) rfl (of_decide_eq_true (imp_of hk286 hg285)) (hr263.some_ (of_decide_eq_true (imp_of hk286 hg285)))) (k:=wG0 (h:=fun hg287 => q_field_addr (0 * 15) fld_40_0 rfl (grV hg287) (hr263.some_ (of_decide_eq_true (imp_of hk286 hg287))) rfl) (k:=?_))
     obtain ⟨A289, c290, A291, c292, A293, c294, A295, c296, A297, c298, hx299⟩ := hr263.dapi_MsgT_at 0
     refine wG0 (h:=fun hg288 => q_ldo (c := 0) (v := ii (gt z250.2.2 0).kind) (i := 2) rfl (hx299 (of_decide_eq_true (imp_of hk286 hg288))).2 rfl isAgg3 (grV hg288) rfl) (k:=wG0 (h:=fun hg300 => q_neq rfl (grV hg300)) (k:=zV pkO (k:=zV moV (k:=wG0 (h:=fun hg301 => moV) (k:=?_)))))
     obtain ⟨hk303, h⟩ := chk_some h
     refine wG0 (h:=fun hg302 => q_ixn (i := 0) underlying34 sizeOf40 rfl (grV hg302) rfl (of_decide_eq_true (imp_of hk303 hg302)) ((hr241.mono hl253).some_ (of_decide_eq_true (imp_of hk303 hg302)))) (k:=wG0 (h:=fun hg304 => q_field_addr (0 * 15 + 5) fld_40_3 rfl (grV hg304) ((hr241.mono hl253).some_ (of_decide_eq_true (imp_of hk303 hg304))) rfl) (k:=wG0 (h:=fun hg305 => q_ldo (c := 5) (v := ii (gt z228.2.2 0).id) (i := 3) rfl (hx282 (of_decide_eq_true (imp_of hk303 hg305))).2 rfl isAgg2 (grV hg305) rfl) (k:=wG0 (h:=fun hg306 => moV) (k:=wG0 (h:=fun hg307 => q_neq rfl (grV hg307) (grV hg307)) (k:=zV pkO (k:=zV moV (k:=wG0 (h:=fun hg308 => moV) (k:=?_))))))))
     obtain ⟨hk310, h⟩ := chk_some h
     refine wG0 (h:=fun hg309 => q_ixn (i := 0) underlying34 sizeOf40 rfl (grV hg309) rfl (of_decide_eq_true (imp_of hk310 hg309)) (hr263.some_ (of_decide_eq_true (imp_of hk310 hg309)))) (k:=wG0 (h:=fun hg311 => q_field_addr (0 * 15 + 5) fld_40_3 rfl (grV hg311) (hr263.some_ (of_decide_eq_true (imp_of hk310 hg311))) rfl) (k:=wG0 (h:=fun hg312 => q_ldo (c := 5) (v := ii (gt z250.2.2 0).id) (i := 2) rfl (hx299 (of_decide_eq_true (imp_of hk310 hg312))).2 rfl isAgg2 (grV hg312) rfl) (k:=wG0 (h:=fun hg313 => moV) (k:=wG0 (h:=fun hg314 => q_neq rfl (grV hg314) (grV hg314)) (k:=zV pkO (k:=zV moV (k:=wG0 (h:=fun hg315 => moV) (k:=?_))))))))
     obtain ⟨hk317, h⟩ := chk_some h
     refine wG0 (h:=fun hg316 => q_ixn (i := 0) underlying34 sizeOf40 rfl (grV hg316) rfl (of_decide_eq_true (imp_of hk317 hg316)) ((hr241.mono hl253).some_ (of_decide_eq_true (imp_of hk317 hg316)))) (k:=wG0 (h:=fun hg318 => q_field_addr (0 * 15 + 9) fld_40_7 rfl (grV hg318) ((hr241.mono hl253).some_ (of_decide_eq_true (imp_of hk317 hg318))) rfl) (k:=wG0 (h:=fun hg319 => q_ldo (c := 9) (v := .string (gt z228.2.2 0).key) (i := 3) rfl (hx282 (of_decide_eq_true (imp_of hk317 hg319))).2 rfl isAgg9 (grV hg319) rfl) (k:=wG0 (h:=fun hg320 => moV) (k:=wG0 (h:=fun hg321 => q_sneq rfl (grV hg321) (grV hg321)) (k:=zV pkO (k:=zV moV (k:=wG0 (h:=fun hg322 => moV) (k:=?_))))))))
     obtain ⟨hk324, h⟩ := chk_some h
     refine wG0 (h:=fun hg323 => q_ixn (i := 0) underlying34 sizeOf40 rfl (grV hg323) rfl (of_decide_eq_true (imp_of hk324 hg323)) (hr263.some_ (of_decide_eq_true (imp_of hk324 hg323)))) (k:=wG0 (h:=fun hg325 => q_field_addr (0 * 15 + 3) fld_40_2 rfl (grV hg325) (hr263.some_ (of_decide_eq_true (imp_of hk324 hg325))) rfl) (k:=wG0 (h:=fun hg326 => q_ldoa (c := 3) (vs := [ii (gt z250.2.2 0).to_.site, ii (gt z250.2.2 0).to_.node]) (i := 2) rfl (hx299 (of_decide_eq_true (imp_of hk324 hg326))).2 rfl isAgg32 sizeOf32 (grV hg326) rfl) (k:=?_)))
     obtain ⟨z328, hz329, h⟩ := bnd h
     refine wg0 rfl rfl rfl rfl rfl (fun hg327 => (q_call (caV call11) (fun w hw => t_firthlaw15_at (Γ := Gh.all w) 7 (show I64 7 by decide) (Sat.all w) (gc_of hz329 hg327)))) (wG0 (h:=fun hg330 => q_neq_Adr (a := (gt z250.2.2 0).to_) (b := z328) rfl (grV hg330) (grV hg330)) (k:=zV pkO (k:=zV moV (k:=wG0 (h:=fun hg331 => moV) (k:=?_)))))
     obtain ⟨hk333, h⟩ := chk_some h
     refine wG0 (h:=fun hg332 => q_ixn (i := 0) underlying34 sizeOf40 rfl (grV hg332) rfl (of_decide_eq_true (imp_of hk333 hg332)) (hr263.some_ (of_decide_eq_true (imp_of hk333 hg332)))) (k:=wG0 (h:=fun hg334 => q_field_addr (0 * 15 + 6) fld_40_4 rfl (grV hg334) (hr263.some_ (of_decide_eq_true (imp_of hk333 hg334))) rfl) (k:=wG0 (h:=fun hg335 => q_ldo (c := 6) (v := ii (gt z250.2.2 0).n) (i := 2) rfl (hx299 (of_decide_eq_true (imp_of hk333 hg335))).2 rfl isAgg2 (grV hg335) rfl) (k:=wG0 (h:=fun hg336 => moV) (k:=wG0 (h:=fun hg337 => q_neq rfl (grV hg337) (grV hg337)) (k:=zV pkO (k:=?_))))))
     refine WQ.nil ?_
     change WC _ _ _ _ _ _
     refine ciV h (fun hb338 h => ?_) (fun hb338 h => ?_)
     ·
      refine WC.rs (aV (k:=WR.done ?_))
      exact WC.ret fun w hw => rq_ r h hF hw
     refine WC.skip (wc_ ?_)
     refine WC.rs (aV (k:=WR.done ?_))
     refine WC.cut (fun σ w => ∃ (v_339 : List Ver), ∃ (A340 : Option Addr), ∃ (c341 : Nat), m_firthlaw15_NodeReads_j1 key part z210 z228 z250 v_339 = some r ∧ slots σ [(1, .string key), (2, ii part), (9, optp z33.2.1 g41), (13, .slice A216 z210.length c217), (14, .slice A238 z228.2.2.length c239), (15, .slice A260 z250.2.2.length c261), (16, .slice A340 v_339.length c341)] ∧ CC F Γ252 [row256, row258, row262, row240, row218] w ∧ v_339.length ≤ c341 ∧ Sl verT Γ252 A340 v_339 ∧ True) ?_ ?_
     ·
      refine WC.rs (mV (k:=?_))
      obtain ⟨hk344, h⟩ := chk_some h
      refine sV (q_ixn (i := 0) underlying34 sizeOf40 rfl rfl rfl (of_decide_eq_true hk344) ((hr241.mono hl253).some_ (of_decide_eq_true hk344))) (k:=sV (q_field_addr (0 * 15 + 10) fld_40_8 rfl rfl ((hr241.mono hl253).some_ (of_decide_eq_true hk344)) rfl) (k:=sV (q_ldo (c := 10) (v := .slice A272 ((gt z228.2.2 0).recs).length c273) (i := 3) rfl (hx282 (of_decide_eq_true hk344)).2 rfl isAgg22 rfl rfl) (k:=sV (q_len_slice rfl underlying22) (k:=sV q_eql (k:=WR.done ?_)))))
      refine ciV h (fun hb345 h => ?_) (fun hb345 h => ?_)
      ·
       refine WC.region ?_
       refine mV (k:=sV (q_ixn (i := 0) underlying34 sizeOf40 rfl rfl rfl (of_decide_eq_true hk344) ((hr241.mono hl253).some_ (of_decide_eq_true hk344))) (k:=sV (q_field_addr (0 * 15 + 10) fld_40_8 rfl rfl ((hr241.mono hl253).some_ (of_decide_eq_true hk344)) rfl) (k:=sV (q_ldo (c := 10) (v := .slice A272 ((gt z228.2.2 0).recs).length c273) (i := 3) rfl (hx282 (of_decide_eq_true hk344)).2 rfl isAgg22 rfl rfl) (k:=?_))))
       obtain ⟨hk346, h⟩ := chk_some h
       refine sV (q_ixn (i := 0) underlying22 sizeOf45 rfl rfl rfl (of_decide_eq_true hk346) ((hx282 (of_decide_eq_true hk344)).1.2.2.2.2.2.2.2.2.2.2.1.2.some_ (of_decide_eq_true hk346))) (k:=sV (q_field_addr (0 * 2 + 1) fld_45_1 rfl rfl ((hx282 (of_decide_eq_true hk344)).1.2.2.2.2.2.2.2.2.2.2.1.2.some_ (of_decide_eq_true hk346)) rfl) (k:=?_))
       obtain ⟨A347, c348, hx349⟩ := (hx282 (of_decide_eq_true hk344)).1.2.2.2.2.2.2.2.2.2.2.1.2.recT_at 0
       refine sV (q_ld (c := 1) (v := .slice A347 ((gt ((gt z228.2.2 0).recs) 0).vers).length c348) (hx349 (of_decide_eq_true hk346)).2 rfl isAgg43 rfl rfl) (k:=aV (k:=?_))
       refine WR.nil ?_
       intro w hw
       exact ⟨(gt ((gt z228.2.2 0).recs) 0).vers, A347, c348, h, (sl_ (by kernel_rfl)), (hw.only (is := [0, 0, 0, 0, 0]) rfl), (hx349 (of_decide_eq_true hk346)).1.2.1, (hx349 (of_decide_eq_true hk346)).1.2.2, trivial⟩
      refine WC.skip ?_
      intro w hw
      exact ⟨[], none, 0, h, (sl_ (by kernel_rfl)), (hw.only (is := [0, 0, 0, 0, 0]) rfl), (Nat.zero_le 0), (Sl.nil verT _ none), trivial⟩
     rintro σ w ⟨v_339, A340, c341, h, hsl, hw, hc343, hs342, -⟩
     refine Wpt.slots hsl ?_
     refine WC.here (C := CC F Γ252 [_, _, _, _, _]) ?_ hw
     clear hw hsl
     refine WC.rs (aV (k:=WR.done (WC.seq (WC.rs (aV (k:=WR.done (WC.block ?_)))))))
     refine WC.forI h (fun (i356 : Nat) (in_350 : List Rec) σ w => ∃ (A351 : Option Addr), ∃ (c352 : Nat), ∃ (row353 : Rowb), slots σ [(1, .string key), (2, ii part), (9, optp z33.2.1 g41), (13, .slice A216 z210.length c217), (14, .slice A238 z228.2.2.length c239), (15, .slice A260 z250.2.2.length c261), (16, .slice A340 v_339.length c341), (17, .slice A351 in_350.length c352), (18, ii ((i356 : Nat) : Int))] ∧ CC F Γ252 [row353, row256, row258, row262, row240, row218] w ∧ Own recT Γ252 45 row353 A351 c352 in_350 ∧ True) ?_ ?_
     ·
      intro w hw
      have hw := hw.pad
      exact ⟨none, 0, [], (sl_ (by kernel_rfl)), hw, (Own.nil recT _ 45), trivial⟩
     rintro f355 i356 in_350 σ w hi357 hlt358 hge359 ⟨A351, c352, row353, hsl, hw, ho354, -⟩
     refine Wpt.slots hsl ?_
     refine WC.here (C := CC F Γ252 [_, _, _, _, _, _]) ?_ hw
     clear hw hsl
     refine WC.seq (WC.rs (mV (k:=mV (k:=sV (q_len_slice rfl underlying22) (k:=sV q_lss (k:=WR.done ?_))))))
     refine WC.cond (b := (decide (((i356 : Nat) : Int) < ((z210.length : Nat) : Int)))) (by kernel_rfl) (fun hb360 => ?_) (fun hb360 => ?_)
     ·
      have hl361 := ilt hb360
      have h := hlt358 hl361
      refine WC.skip (wc_ ?_)
      refine WC.cut (fun σ w => ∃ (in_362 : List Rec), ∃ (A363 : Option Addr), ∃ (c364 : Nat), ∃ (row365 : Rowb), m_firthlaw15_NodeReads_j6 f355 in_362 = some r ∧ slots σ [(1, .string key), (2, ii part), (9, optp z33.2.1 g41), (13, .slice A216 z210.length c217), (14, .slice A238 z228.2.2.length c239), (15, .slice A260 z250.2.2.length c261), (16, .slice A340 v_339.length c341), (17, .slice A363 in_362.length c364), (18, ii ((i356 : Nat) : Int))] ∧ CC F Γ252 [row365, row256, row258, row262, row240, row218] w ∧ Own recT Γ252 45 row365 A363 c364 in_362 ∧ True) ?_ ?_
      ·
       refine WC.block (WC.rs (mV (k:=mV (k:=sV (q_ixn (i := i356) underlying22 sizeOf45 rfl rfl rfl hl361 ((hr219.mono (hl231.trans hl253)).some_ hl361)) (k:=sV (q_field_addr (i356 * 2) fld_45_0 rfl rfl ((hr219.mono (hl231.trans hl253)).some_ hl361) rfl) (k:=?_))))))
       obtain ⟨A367, c368, hx369⟩ := (hr219.mono (hl231.trans hl253)).recT_at i356
       refine sV (q_ldo (c := 0) (v := .string (gt z210 i356).key) (i := 5) rfl (hx369 hl361).2 rfl isAgg9 rfl rfl) (k:=?_)
       obtain ⟨z370, hz371, h⟩ := bnd h
       refine vqV (caV call16) (fun w hw => t_firthref12_Part (Γ := Gh.all w) ((gt z210 i356).key) (hx369 hl361).1.1 (Sat.all w) hz371) (k:=mV (k:=sV q_eql (k:=WR.done ?_)))
       refine ciV h (fun hb372 h => ?_) (fun hb372 h => ?_)
       ·
        refine WC.region ?_
        refine mV (k:=mV (k:=mV (k:=sV (q_ixn (i := i356) underlying22 sizeOf45 rfl rfl rfl hl361 ((hr219.mono (hl231.trans hl253)).some_ hl361)) (k:=sV (q_ldoa (c := 0) (vs := [.string (gt z210 i356).key, .slice A367 ((gt z210 i356).vers).length c368]) (i := 5) rfl (hx369 hl361).2 rfl isAgg45 sizeOf45 rfl rfl) (k:=?_)))))
        refine bsV #[.string (gt z210 i356).key, .slice A367 ((gt z210 i356).vers).length c368] 45 ?_
        intro g373
        obtain ⟨hk374, h⟩ := chk_some h
        refine e_append (T := recT) (xs := in_350) (ys := [(gt z210 i356)]) elem_22 (i := 1) rfl rfl rfl rfl rfl rfl rfl ho354 (of_decide_eq_true hk374) (fun w hw => src_one (T := recT) (y := (gt z210 i356)) (i := 0) rfl (by exact ⟨A367, c368, rfl, (hx369 hl361).1⟩) hw) ?_
        intro row375 A376 c377 ho378
        refine aV (k:=?_)
        refine WR.nil ?_
        intro w hw
        exact ⟨(in_350 ++ [(gt z210 i356)]), A376, c377, row375, h, (sl_ (by kernel_rfl)), (hw.only (is := [1, 1, 1, 1, 1, 1]) rfl), ho378, trivial⟩
       refine WC.skip ?_
       intro w hw
       exact ⟨in_350, A351, c352, row353, h, (sl_ (by kernel_rfl)), hw, ho354, trivial⟩
      rintro σ w ⟨in_362, A363, c364, row365, h, hsl, hw, ho366, -⟩
      refine Wpt.slots hsl ?_
      refine WC.here (C := CC F Γ252 [_, _, _, _, _, _]) ?_ hw
      clear hw hsl
      refine WC.region ?_
      refine mV (k:=sV (q_add_r (r := ((i356 + 1 : Nat) : Int)) rfl rfl rfl (ctr_len hl361 (hr219.mono (hl231.trans hl253)).le)) (k:=aV (k:=?_)))
      refine WR.nil ?_
      intro w hw
      exact ⟨hl361, in_362, h, A363, c364, row365, (sl_ (by kernel_rfl)), hw, ho366, trivial⟩
     have h := hge359 (ige hb360)
     refine WC.exit ?_
     change WC _ _ _ _ _ _
     refine WC.rs (mV (k:=mV (k:=mV (k:=?_))))
     have hc383 := (hr219.mono (hl231.trans hl253)).capz
     intro w hw; obtain ⟨Γ379, hw, hl380, hr381⟩ := hw.seal (i := 5) rfl; have hs382 := (hr219.mono (hl231.trans hl253)).sl hl380 hr381
     refine WR.here (C := CC F Γ379 [_, _, _, _, _, _]) ?_ hw
     clear hw
     obtain ⟨z384, hz385, h⟩ := bnd h
     refine ecV [] (caV call18) (fun w hp => t_firthref14_Get hs382 hc383 key hkey hp hz385) ?_
     rintro Γ386 U388 v389 hl387 ⟨A390, c391, rfl, rfl, hc393, hr392, _⟩
     refine cwV 240 [_, _, _, _, _, _] ?_
     obtain ⟨z394, hz395, h⟩ := bnd h
     refine vqV (caV call17) (fun w hw => t_firthref05_Same (Γ := Gh.all w) ((hs342.mono (hl380.trans hl387)).mono hw.sat.le_all) hc343 (hr392.mono hw.sat.le_all) hc393 (Sat.all w) hz395) (k:=mV (k:=vG1 (h:=fun hg396 => moV) (k:=?_)))
     obtain ⟨hk398, h⟩ := chk_some h
     refine vG1 (h:=fun hg397 => q_ixn (i := 0) underlying34 sizeOf40 rfl (grV hg397) rfl (of_decide_eq_true (imp_of hk398 hg397)) ((hr241.mono ((hl253.trans hl380).trans hl387)).some_ (of_decide_eq_true (imp_of hk398 hg397)))) (k:=vG1 (h:=fun hg399 => q_field_addr (0 * 15 + 10) fld_40_8 rfl (grV hg399) ((hr241.mono ((hl253.trans hl380).trans hl387)).some_ (of_decide_eq_true (imp_of hk398 hg399))) rfl) (k:=?_))
     obtain ⟨A401, c402, A403, c404, A405, c406, A407, c408, A409, c410, hx411⟩ := (hr241.mono ((hl253.trans hl380).trans hl387)).dapi_MsgT_at 0
     refine vG1 (h:=fun hg400 => q_ldo (c := 10) (v := .slice A401 ((gt z228.2.2 0).recs).length c402) (i := 4) rfl (hx411 (of_decide_eq_true (imp_of hk398 hg400))).2 rfl isAgg22 (grV hg400) rfl) (k:=vG1 (h:=fun hg412 => q_len_slice rfl underlying22 (grV hg412)) (k:=vG1 (h:=fun hg413 => q_eql rfl (grV hg413)) (k:=vG1 (h:=fun hg414 => moV) (k:=vG1 (h:=fun hg415 => q_len_slice rfl underlying43 (grV hg415)) (k:=vG1 (h:=fun hg416 => q_eql rfl (grV hg416)) (k:=vG1 (h:=fun hg417 => q_beql underlying4 rfl (grV hg417) (grV hg417)) (k:=sV pkA (k:=?_))))))))
     refine mV (k:=vG1 (h:=fun hg418 => moV) (k:=?_))
     obtain ⟨hk420, h⟩ := chk_some h
     refine vG1 (h:=fun hg419 => q_ixn (i := 0) underlying34 sizeOf40 rfl (grV hg419) rfl (of_decide_eq_true (imp_of hk420 hg419)) ((hr263.mono (hl380.trans hl387)).some_ (of_decide_eq_true (imp_of hk420 hg419)))) (k:=vG1 (h:=fun hg421 => q_field_addr (0 * 15 + 10) fld_40_8 rfl (grV hg421) ((hr263.mono (hl380.trans hl387)).some_ (of_decide_eq_true (imp_of hk420 hg421))) rfl) (k:=?_))
     obtain ⟨A423, c424, A425, c426, A427, c428, A429, c430, A431, c432, hx433⟩ := (hr263.mono (hl380.trans hl387)).dapi_MsgT_at 0
     refine vG1 (h:=fun hg422 => q_ldo (c := 10) (v := .slice A423 ((gt z250.2.2 0).recs).length c424) (i := 3) rfl (hx433 (of_decide_eq_true (imp_of hk420 hg422))).2 rfl isAgg22 (grV hg422) rfl) (k:=vG1 (h:=fun hg434 => moV) (k:=?_))
     obtain ⟨z436, hz437, h⟩ := bnd h
     refine vg1 rfl rfl rfl rfl rfl (fun hg435 => (q_call (call_run call19 rfl rfl (args2 (grV hg435) (grV hg435))) (fun w hw => t_firthref06_SameRecs (Γ := Gh.all w) ((hx433 (of_decide_eq_true (imp_of hk420 hg435))).1.2.2.2.2.2.2.2.2.2.2.1.2.mono hw.sat.le_all) (hx433 (of_decide_eq_true (imp_of hk420 hg435))).1.2.2.2.2.2.2.2.2.2.2.1.1 ((ho354.mono (hl380.trans hl387)).sl hw.sat.le_all (hw.ra 0 rfl)) (ho354.mono (hl380.trans hl387)).capz (Sat.all w) (gc_of hz437 hg435)))) (sV pkA (k:=mV (k:=vG1 (h:=fun hg438 => q_move (v := (pq g41)) rfl (optp_some rfl hz50)) (k:=?_))))
     refine (Bool.eq_false_or_eq_true ((z394 && ((((((gt z228.2.2 0).recs).length : Nat) : Int) == 0) == (((v_339.length : Nat) : Int) == 0))) && z436)).elim (fun hb439 => ?_) (fun hb439 => ?_)
     ·
      have h := bt hb439 h
      refine WR.sat (c0 := true) (g := ((z394 && ((((((gt z228.2.2 0).recs).length : Nat) : Int) == 0) == (((v_339.length : Nat) : Int) == 0))) && z436)) rfl rfl rfl hb439 ?_
      obtain ⟨z440, hz441, h⟩ := bnd h
      refine ecV [1] (call_run call15 rfl rfl (args2 (grV hb439) rfl)) (fun w hp => t_node_Node_Recs (hr257.mono (hl380.trans hl387)) (-1) (show I64 (-1) by decide) hp hz441) ?_
      rintro Γ442 U444 v445 hl443 ⟨A446, c447, row448, rfl, rfl, hr449, _⟩
      refine cwV 264 [_, _, _, _, _, _, _] ?_
      refine WR.sat (c0 := true) (g := ((z394 && ((((((gt z228.2.2 0).recs).length : Nat) : Int) == 0) == (((v_339.length : Nat) : Int) == 0))) && z436)) rfl rfl rfl hb439 ?_
      refine mV (k:=?_)
      refine WR.sat (c0 := true) (g := ((z394 && ((((((gt z228.2.2 0).recs).length : Nat) : Int) == 0) == (((v_339.length : Nat) : Int) == 0))) && z436)) rfl rfl rfl hb439 ?_
      obtain ⟨z450, hz451, h⟩ := bnd h
      refine vqV (caV call19) (fun w hw => t_firthref06_SameRecs (Γ := Gh.all w) (hr449.sl hw.sat.le_all (hw.ra 1 rfl)) hr449.capz ((hs382.mono (hl387.trans hl443)).mono hw.sat.le_all) hc383 (Sat.all w) hz451) (k:=sV (q_pick_t (v := .bool z450) rfl rfl hb439 (by kernel_rfl)) (k:=aV (k:=WR.done ?_)))
      exact WC.ret fun w hw => rq_ r h hF hw
     have h := bf hb439 h
     refine WR.unsat (c0 := true) (g := ((z394 && ((((((gt z228.2.2 0).recs).length : Nat) : Int) == 0) == (((v_339.length : Nat) : Int) == 0))) && z436)) rfl rfl rfl hb439 rfl ?_
     refine WR.unsat (c0 := true) (g := ((z394 && ((((((gt z228.2.2 0).recs).length : Nat) : Int) == 0) == (((v_339.length : Nat) : Int) == 0))) && z436)) rfl rfl rfl hb439 rfl ?_
     refine WR.unsat (c0 := true) (g := ((z394 && ((((((gt z228.2.2 0).recs).length : Nat) : Int) == 0) == (((v_339.length : Nat) : Int) == 0))) && z436)) rfl rfl rfl hb439 rfl ?_
     refine sV (q_pick_f (v := .bool false) rfl rfl hb439 (by kernel_rfl)) (k:=aV (k:=WR.done ?_))
     exact WC.ret fun w hw => rq_ r h hF hw
    have h := bf hb171 h
    refine WR.unsat (c0 := true) (g := ((((((z126.2.2.length : Nat) : Int) != 1) || ((gt z126.2.2 0).n != 3)) || ((gt z126.2.2 0).kind != 2)) || ((gt z126.2.2 0).id != part))) rfl rfl rfl hb171 rfl ?_
    refine WR.unsat (c0 := true) (g := ((((((z126.2.2.length : Nat) : Int) != 1) || ((gt z126.2.2 0).n != 3)) || ((gt z126.2.2 0).kind != 2)) || ((gt z126.2.2 0).id != part))) rfl rfl rfl hb171 rfl ?_
    refine sV (q_pick_t (v := .bool true) rfl rfl (not_f hb171) (by kernel_rfl)) (k:=WR.done ?_)
    refine WC.ctk (b := true) (by kernel_rfl) rfl ?_
    refine WC.rs (aV (k:=WR.done ?_))
    exact WC.ret fun w hw => rq_ r h hF hw
   have h := bf hb110 h
   refine WR.unsat (c0 := true) (g := (((z95.2.2.length : Nat) : Int) != 0)) rfl rfl rfl hb110 rfl ?_
   refine sV (q_pick_t (v := .bool true) rfl rfl (not_f hb110) (by kernel_rfl)) (k:=WR.done ?_)
   refine WC.ctk (b := true) (by kernel_rfl) rfl ?_
   refine WC.rs (aV (k:=WR.done ?_))
   exact WC.ret fun w hw => rq_ r h hF hw
  have h := bf hb67 h
  refine WR.unsat (c0 := true) (g := z52) rfl rfl rfl hb67 rfl ?_
  refine WR.unsat (c0 := true) (g := z52) rfl rfl rfl hb67 rfl ?_
  refine WR.unsat (c0 := true) (g := z52) rfl rfl rfl hb67 rfl ?_
  refine sV (q_pick_t (v := .bool true) rfl rfl (not_f hb67) (by kernel_rfl)) (k:=WR.done ?_)
  refine WC.ctk (b := true) (by kernel_rfl) rfl ?_
  refine WC.rs (aV (k:=WR.done ?_))
  exact WC.ret fun w hw => rq_ r h hF hw
 have h := bf hb48 h
 refine WR.unsat (c0 := true) (g := ((Option.isNone z33.2.1) || (z33.2.2 != 0))) rfl rfl rfl hb48 rfl ?_
 refine sV (q_pick_t (v := .bool true) rfl rfl (not_f hb48) (by kernel_rfl)) (k:=mV (k:=?_))
 refine WR.unsat (c0 := true) (g := true) rfl rfl rfl (nott rfl) rfl ?_
 refine WR.unsat (c0 := true) (g := true) rfl rfl rfl (nott rfl) rfl ?_
 refine WR.unsat (c0 := true) (g := true) rfl rfl rfl (nott rfl) rfl ?_
 refine WR.unsat (c0 := true) (g := true) rfl rfl rfl (nott rfl) rfl ?_
 refine WR.unsat (c0 := true) (g := true) rfl rfl rfl (nott rfl) rfl ?_
 refine WR.unsat (c0 := true) (g := true) rfl rfl rfl (nott rfl) rfl ?_
 refine WR.unsat (c0 := true) (g := true) rfl rfl rfl (nott rfl) rfl ?_
 refine WR.unsat (c0 := true) (g := true) rfl rfl rfl (nott rfl) rfl ?_
 refine sV (q_pickt (v := .bool true) rfl rfl rfl) (k:=WR.done ?_)
 refine WC.ctk (b := true) (by kernel_rfl) rfl ?_
 refine WC.rs (aV (k:=WR.done ?_))
 exact WC.ret fun w hw => rq_ r h hF hw
end Fw
end Go.Proofs.YtckindfllegbgaaGreat
