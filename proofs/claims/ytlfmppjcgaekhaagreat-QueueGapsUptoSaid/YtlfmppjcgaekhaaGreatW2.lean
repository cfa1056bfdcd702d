/- Walks through the functions that the law reaches (printed by a program). No condition. -/
import Derived.Test.YtlfmppjcgaekhaaGreatW1
namespace Go.Proofs.YtlfmppjcgaekhaaGreat
namespace Fw
set_option linter.unusedVariables false
set_option linter.unusedSimpArgs false
set_option linter.unusedSectionVars false
set_option maxRecDepth 100000
set_option maxHeartbeats 400000
open Go.RowKit
open Go.Proofs.Tryz
variable {Γ : Gh} {w0 : World}
theorem te {Al : Option Addr} {cl : Nat} {l : List Ver} (hl : Sl verT Γ Al l) (hlc : l.length ≤ cl) (hs : Sat Γ w0) {r : Bool} (h : gS l = some r) : CQ Tryz.prog 196 #[.slice Al l.length cl] w0 (.bool r) := by
 refine goQ [2] func196 ntmps196 results196 hs fun F hF => ?_
 refine WC.rs (aV (k:=WR.done (WC.seq (WC.rs (mV (k:=sV (ab rfl underlying40) (k:=mV (k:=?_))))))))
 refine WR.done (WC.block ?_)
 refine WC.forI h (fun (i2 : Nat) (s : Unit) σ w => match s with | () => slots σ [(0, .slice Al l.length cl), (5, .slice Al l.length cl), (6, ii (l.length : Int)), (7, ii (i2 : Int))] ∧ CC F Γ [] w ∧ True) ?_ ?_
 ·
  intro w hw
  exact ⟨slK, hw, trivial⟩
 rintro f1 i2 ⟨⟩ σ w hi3 hlt4 hge5 ⟨hsl, hw, -⟩
 refine slV hsl hw [] ?_; clear hw hsl
 refine WC.rs (sV aS (k:=WR.done (WC.seq ?_)))
 refine coV (fun hb6 => ?_) (fun hb6 => ?_)
 ·
  have hl7 := ilt hb6
  have h := hlt4 hl7
  refine WC.skip (wc_ (WC.seq (WC.block (WC.rs (mV (k:=sV (bb (i := i2) underlying40 sizeOf37 rfl rfl rfl hl7 (hl.some_ hl7)) (k:=?_)))))))
  obtain ⟨A8, c9, hx10⟩ := hl.verT_at i2
  refine sV (gY (c := 0) (vs := (Ver.cs A8 c9 (gt l i2))) (hx10 hl7).2 rfl isAgg37 sizeOf37 rfl rfl rfl) (k:=?_)
  refine alV zeroValue37 fun g11 => ?_
  refine aV (k:=stV 0 (.agg (Ver.cs A8 c9 (gt l i2)).toArray) (Ver.cs A8 c9 (gt l i2)).toArray sizeOf37 (k:=WR.done (WC.seq ?_)))
  refine drV ?_
  refine zV (ldaV 0 (Ver.cs A8 c9 (gt l i2)) isAgg37 sizeOf37) (k:=?_)
  obtain ⟨z12, hz13, h⟩ := bnd h
  refine wc rfl rfl rfl (bl (caV call237) (fun w hw => qs (Γ := Gh.all w) (gt l i2) (Ver.fits_mono (hx10 hl7).1 hw.sat.le_all) (Sat.all w) hz13)) (zV bu (k:=zV moV (k:=wG0 (h:=fun hg14 => moV) (k:=wG0 (h:=fun hg15 => bB rfl (grV hg15)) (k:=wG0 (h:=fun hg16 => ay (v := .bool (decide (0 < (i2 : Int)))) rfl (grV hg16)) (k:=wh1 (c0 := (!(!z12))) (g := (decide (0 < (i2 : Int)))) rfl rfl rfl rfl rfl (fun _ => QV.qo moV) (wh1 (c0 := (!(!z12))) (g := (decide (0 < (i2 : Int)))) rfl rfl rfl rfl rfl (fun _ => QV.qo moV) ?_)))))))
  refine wh1 (c0 := (!(!z12))) (g := (decide (0 < (i2 : Int)))) rfl rfl rfl rfl rfl (fun hg19 => QV.qo (hQ rfl (grV hg19))) ?_
  obtain ⟨hk21, h⟩ := ai h
  refine wh1 (c0 := (!(!z12))) (g := (decide (0 < (i2 : Int)))) rfl rfl rfl rfl rfl (fun hg20 => QV.qo (q_ix underlying40 sizeOf37 rfl (grV hg20) (grV hg20) (bg hk21 hg20) (hl.some_ (bG (bg hk21 hg20))))) (wh1 (c0 := (!(!z12))) (g := (decide (0 < (i2 : Int)))) rfl rfl rfl rfl rfl (fun hg22 => QV.qo (b6 (((w64 ((i2 : Int) - 1)).toNat) * 5) cg rfl (grV hg22) (hl.some_ (bG (bg hk21 hg22))) rfl)) ?_)
  obtain ⟨A24, c25, hx26⟩ := hl.verT_at ((w64 ((i2 : Int) - 1)).toNat)
  refine wh1 (c0 := (!(!z12))) (g := (decide (0 < (i2 : Int)))) rfl rfl rfl rfl rfl (fun hg23 => QV.qo (gY (c := 0) (vs := [ii (gt l ((w64 ((i2 : Int) - 1)).toNat)).dot.s, ii (gt l ((w64 ((i2 : Int) - 1)).toNat)).dot.n]) (hx26 (bG (bg hk21 hg23))).2 rfl isAgg35 sizeOf35 (grV hg23) rfl rfl)) (wh1 (c0 := (!(!z12))) (g := (decide (0 < (i2 : Int)))) rfl rfl rfl rfl rfl (fun _ => QV.qo (q_fl 0 cg)) (wh1 (c0 := (!(!z12))) (g := (decide (0 < (i2 : Int)))) rfl rfl rfl rfl rfl (fun hg28 => QV.qo (ldaV 0 [ii (gt l i2).dot.s, ii (gt l i2).dot.n] isAgg35 sizeOf35 (hx:=grV hg28))) ?_))
  obtain ⟨z30, hz31, h⟩ := bnd h
  refine wh1 (c0 := (!(!z12))) (g := (decide (0 < (i2 : Int)))) rfl rfl rfl rfl rfl (fun hg29 => (bl (aR call238 rfl rfl (fh (grV hg29) (grV hg29))) (fun w hw => rP (Γ := Gh.all w) ((gt l ((w64 ((i2 : Int) - 1)).toNat)).dot) ⟨(hx26 (bG (bg hk21 hg29))).1.1, (hx26 (bG (bg hk21 hg29))).1.2.1⟩ ((gt l i2).dot) ⟨(hx10 hl7).1.1, (hx10 hl7).1.2.1⟩ (Sat.all w) (eQ hz31 hg29)))) (wh1 (c0 := (!(!z12))) (g := (decide (0 < (i2 : Int)))) rfl rfl rfl rfl rfl (fun hg32 => QV.qo (bu rfl (grV hg32))) (wG0 (h:=fun hg33 => fU rfl (grV hg33) (kX (c := (!(!z12))) (g := (decide (0 < (i2 : Int)))) (y := (!z30)) hg33)) (k:=zV pkO (k:=zV moV (k:=wG0 (h:=fun hg34 => q_fl 0 cg) (k:=wG0 (h:=fun hg35 => ldaV 0 [ii (gt l i2).dot.s, ii (gt l i2).dot.n] isAgg35 sizeOf35 (hx:=grV hg35)) (k:=wG0 (h:=fun hg36 => moV) (k:=?_))))))))
  obtain ⟨z38, hz39, h⟩ := bnd h
  refine wC0 (h:=fun hg37 => bl (aR call239 rfl rfl (fh (grV hg37) (grV hg37))) (fun w hw => rO (Γ := Gh.all w) ((gt l i2).dot) ⟨(hx10 hl7).1.1, (hx10 hl7).1.2.1⟩ (hl.mono hw.sat.le_all) hlc (Sat.all w) (eQ hz39 hg37))) (k:=zV pkO (k:=?_))
  refine WQ.nil ?_
  change WC _ _ _ _ _ _
  refine ciV h (fun hb40 h => ?_) (fun hb40 h => ?_)
  ·
   refine WC.rs (aV (k:=WR.done ?_))
   exact WC.ret fun w hw => rq_ r h hF hw
  refine WC.skip (wc_ ?_)
  refine WC.region ?_
  refine sV (aC rfl rfl rfl (aP hl7 hl.le)) (k:=mV (k:=?_))
  refine WR.nil ?_
  intro w hw
  exact ⟨hl7, (), h, slK, (hw.on []), trivial⟩
 have h := hge5 (ige hb6)
 refine WC.exit ?_
 change WC _ _ _ _ _ _
 refine WC.rs (mV (k:=sV (ab rfl underlying40) (k:=sV gm (k:=aV (k:=WR.done ?_)))))
 exact WC.ret fun w hw => rq_ r h hF hw
theorem jM {Ar_1 : Option Addr} {cr_1 : Nat} (r_ : Rec) (hr_ : Rec.fits Γ Ar_1 cr_1 r_) (hs : Sat Γ w0) {r : Bool} (h : aI r_ = some r) : CQ Tryz.prog 141 #[.agg (Rec.cs Ar_1 cr_1 r_).toArray] w0 (.bool r) := by
 refine goQ [2] func141 ntmps141 results141 hs fun F hF => ?_
 refine WC.rs ?_
 refine bxV (v := .agg (Rec.cs Ar_1 cr_1 r_).toArray) fun g1 => ?_
 refine aV (k:=WR.done (WC.rs (sV (q_fl 0 mh) (k:=sV (ldV 0 isAgg9) (k:=sV (cJ rfl underlying9) (k:=sV kE (k:=mV (k:=?_))))))))
 refine vG1 (h:=fun hg2 => q_fl 0 mh) (k:=vG1 (h:=fun hg3 => ldV 0 isAgg9 (hx:=grV hg3)) (k:=vG1 (h:=fun hg4 => cJ rfl underlying9 (grV hg4)) (k:=vG1 (h:=fun hg5 => gm rfl (grV hg5)) (k:=sV pkA (k:=mV (k:=vG1 (h:=fun hg6 => q_fl 1 df) (k:=vG1 (h:=fun hg7 => ldV 0 isAgg40 (hx:=grV hg7)) (k:=?_))))))))
 obtain ⟨z9, hz10, h⟩ := bnd h
 refine vC1 (h:=fun hg8 => bl (aR call196 rfl rfl (mB (grV hg8))) (fun w hw => te (Γ := Gh.all w) (hr_.2.2.mono hw.sat.le_all) hr_.2.1 (Sat.all w) (eQ hz10 hg8))) (k:=sV pkA (k:=aV (k:=WR.done ?_)))
 exact WC.ret fun w hw => rq_ r h hF hw
abbrev mC (r : Rec × Int) (U : List Rowb) (Γ : Gh) (v : Value) : Prop := ∃ (A0_1 : Option Addr), ∃ (c0_1 : Nat), v = .tuple #[.agg #[.string r.1.key, .slice A0_1 r.1.vers.length c0_1], .int .i64 r.2] ∧ U = [] ∧ Rec.fits Γ A0_1 c0_1 r.1 ∧ I64 r.2 ∧ True
theorem mG {Ab : Option Addr} {cb : Nat} {b : List UInt8} (hb : Sl av Γ Ab b) (hbc : b.length ≤ cb) (hp : Pre [] Γ w0) {r : Rec × Int} (h : gw b = some r) : Calls Tryz.prog 152 #[.slice Ab b.length cb, .func (.func 153) #[] #[], .func (.func 141) #[] #[]] w0 (Outc Γ [] w0 (mC r)) := by
 refine vb (n := 32) (args := [.slice Ab b.length cb, .func (.func 153) #[] #[], .func (.func 141) #[] #[]]) func152 rfl ntmps152 rfl ?_
 obtain ⟨F, hF⟩ : ∃ F : Fm, F = ⟨ids [], w0, Γ⟩ := ⟨_, rfl⟩
 refine WX.here (C := CC F Γ []) ?_ (hF ▸ hp.start)
 refine WX.seq ?_
 refine WC.region ?_
 refine alV zeroValue42 fun g1 => ?_
 refine alV zeroValue28 fun g2 => ?_
 refine WR.nil ?_
 change WX _ _ _ _ _ _ _
 refine WX.defer (v := .func (.func 203) #[] #[(pq g1), (pq g2)]) (d := ⟨.fn (.func 203) #[(pq g1), (pq g2)], #[]⟩) rfl rfl rfl rfl (jP (v := .func (.func 203) #[] #[(pq g1), (pq g2)]) rfl (by kernel_rfl)) (x6 rfl rfl) ?_
 refine WX.last ?_
 change WC _ _ _ _ _ _
 refine WC.rs (mV (k:=sV (aZ (v := .agg #[.slice Ab b.length cb, ii 0]) rfl (jN rfl) (fun w => by kernel_rfl)) (k:=?_)))
 refine bxV (v := .agg #[.slice Ab b.length cb, ii 0]) fun g3 => ?_
 refine aV (k:=WR.done (WC.rs (mU (v := .func (.func 153) #[] #[]) (k:=mV (k:=?_)))))
 obtain ⟨row_4, hrow_4, hob_4⟩ : ∃ rw : Rowb, rw = ([[(g3, .cells #[.slice Ab b.length cb, ii 0] 306 (0, 0))]] : List Rowb).flatten ∧ a8.ob 306 Γ g3 rw (⟨b, 0⟩ : a8) := ⟨_, rfl, Ab, cb, rfl, hbc, hb, iV, trivial⟩
 refine foR [0] hrow_4 [_, _, _] ?_
 obtain ⟨z5, hz6, h⟩ := bnd h
 rcases z5 with _ | o7
 ·
  have h := gE rfl h
  refine eo (is := [0]) rfl (ee (caps := #[]) call153 rfl (by kernel_rfl) (by kernel_rfl)) rfl (fun w hp => kG hob_4 hp hz6) ?_
  intro Γ8 hl9
  change ∀ w, CC F Γ8 [[(g2, .cells #[ii 0] 28 (0, 0))], [(g1, .cells #[.string ByteArray.empty, .slice none 0 0] 42 (0, 0))]] w → _
  obtain ⟨z10, hz11, h⟩ := bnd h
  refine qO (rs := [.cell 6 42, .cell 7 28]) (is := [1, 0]) results152 (px call203) rfl rfl (fun w hp => iP ByteArray.empty (show (ByteArray.empty : ByteArray).size ≤ lim by decide) (Sl.nil verT _ none) (Nat.zero_le 0) 0 iV hp hz11) ?_
  rintro Γ12 _ _ hl13 ⟨A17, c18, rfl, rfl, hr16, hc20, hr19, hr21, _⟩
  change WRt _ _ _ (CC F Γ12 [_, _]) _
  unfold WRt
  intro w hw
  obtain rfl := Option.some.inj h
  subst hF
  exact ⟨[.agg #[.string z10.1, .slice A17 z10.2.1.length c18], ii z10.2.2], (dp (i := 0) (us := [.string z10.1, .slice A17 z10.2.1.length c18]) hw rfl isAgg42 sizeOf42 (by kernel_rfl) rfl (t7 (i := 1) hw rfl isAgg28 (by kernel_rfl) rfl dk)), aO (is := []) (by kernel_rfl) hw rfl ⟨A17, c18, rfl, rfl, ⟨hr16, ⟨hc20, hr19⟩⟩, hr21, trivial⟩⟩
 have h := gH rfl h
 refine ecV [0] (ee (caps := #[]) call153 rfl (by kernel_rfl) (by kernel_rfl)) (fun w hp => kG hob_4 hp hz6) ?_
 rintro Γ22 _ _ hl23 ⟨row26, A28, c29, rfl, rfl, hr27, hr30, _⟩
 refine cwV 15 [_, _, _] (stV 2 (.agg (Rec.cs A28 c29 o7.2).toArray) (Rec.cs A28 c29 o7.2).toArray sizeOf42 (k:=WR.done ?_))
 refine WC.cut (fun σ w => eS o7  = some r ∧ slots σ [(6, (pq g1)), (7, (pq g2))] ∧ CC F Γ22 [row26, [(g2, .cells #[ii 0] 28 (0, 0))], [(g1, .cells (Rec.cs A28 c29 o7.2).toArray 42 (0, 0))]] w ∧ True) ?_ ?_
 ·
  refine WC.rs (mV (k:=sV nlV (k:=sV (q_fl 1 jh) (k:=?_))))
  obtain ⟨A0_31, c0_31, hrow_31, ho0_31, ho1_31, ho2_31, -⟩ := id hr27
  refine ufR 0 hrow_31 [_, _, _] ?_
  refine sV (ldV 0 isAgg3) (k:=mV (k:=sV (ab rfl underlying70) (k:=sV bZ (k:=mV (k:=vG0 (h:=fun hg32 => ay (v := .func (.func 141) #[] #[]) rfl (by kernel_rfl)) (k:=vG0 (h:=fun hg33 => ldaV 2 (Rec.cs A28 c29 o7.2) isAgg42 sizeOf42) (k:=?_)))))))
  obtain ⟨z35, hz36, h⟩ := bnd h
  refine vC0 (h:=fun hg34 => bl (ee (caps := #[]) (args := #[.agg (Rec.cs A28 c29 o7.2).toArray]) call141 rfl (grV hg34) ((congrArg (· ++ #[]) (mB (grV hg34))).trans (by kernel_rfl))) (fun w hw => jM (Γ := Gh.all w) o7.2 (Rec.fits_mono hr30 hw.sat.le_all) (Sat.all w) (eQ hz36 hg34))) (k:=vG0 (h:=fun hg37 => bu rfl (grV hg37)) (k:=sV pkO (k:=WR.done ?_)))
  refine ciV h (fun hb38 h => ?_) (fun hb38 h => ?_)
  ·
   refine WC.region ?_
   refine sV (dP (v := .agg #[]) rfl (fun w => by kernel_rfl)) (k:=sV (eN rfl rfl (fun w => mkif underlying304 w)) (k:=?_))
   refine lH (v := .iface 304 (.agg #[])) rfl (gB rfl rfl) ?_
   change ∀ w, CC F Γ22 [[(g3, .cells #[.slice A0_31 o7.1.b.length c0_31, ii o7.1.at_] 306 (0, 0))], [(g2, .cells #[ii 0] 28 (0, 0))], [(g1, .cells (Rec.cs A28 c29 o7.2).toArray 42 (0, 0))]] w → _
   obtain ⟨z41, hz42, h⟩ := bnd h
   refine qO (rs := [.cell 6 42, .cell 7 28]) (is := [2, 1]) results152 (px call203) rfl rfl (fun w hp => iP o7.2.key hr30.1 hr30.2.2 hr30.2.1 0 iV hp hz42) ?_
   rintro Γ43 _ _ hl44 ⟨A48, c49, rfl, rfl, hr47, hc51, hr50, hr52, _⟩
   change WRt _ _ _ (CC F Γ43 [_, _, _]) _
   unfold WRt
   intro w hw
   obtain rfl := Option.some.inj h
   subst hF
   exact ⟨[.agg #[.string z41.1, .slice A48 z41.2.1.length c49], ii z41.2.2], (dp (i := 0) (us := [.string z41.1, .slice A48 z41.2.1.length c49]) hw rfl isAgg42 sizeOf42 (by kernel_rfl) rfl (t7 (i := 1) hw rfl isAgg28 (by kernel_rfl) rfl dk)), aO (is := []) (by kernel_rfl) hw rfl ⟨A48, c49, rfl, rfl, ⟨hr47, ⟨hc51, hr50⟩⟩, hr52, trivial⟩⟩
  refine WC.skip ?_
  intro w hw
  have hw := hw.fold (is := [0]) rfl hrow_31
  exact ⟨h, slK, hw, trivial⟩
 rintro σ w ⟨h, hsl, hw, -⟩
 refine slV hsl hw [_, _, _] ?_; clear hw hsl
 refine WC.rs (sV (ldaV 2 (Rec.cs A28 c29 o7.2) isAgg42 sizeOf42) (k:=stV 2 (.agg (Rec.cs A28 c29 o7.2).toArray) (Rec.cs A28 c29 o7.2).toArray sizeOf42 (k:=stV 1 (ii 0) #[ii 0] sizeOf28 (k:=WR.done ?_))))
 refine WC.ret ?_
 refine xk (rs := [.cell 6 42, .cell 7 28]) results152 (px call203) (yH ((pq g1)) ((pq g2))) ?_
 unfold WRt
 intro w hw
 obtain rfl := Option.some.inj h
 subst hF
 exact ⟨[.agg (Rec.cs A28 c29 o7.2).toArray, ii 0], (dp (i := 2) (us := (Rec.cs A28 c29 o7.2)) hw rfl isAgg42 sizeOf42 (by kernel_rfl) rfl (t7 (i := 1) hw rfl isAgg28 (by kernel_rfl) rfl dk)), aO (is := []) (by kernel_rfl) hw rfl ⟨A28, c29, rfl, rfl, hr30, iV, trivial⟩⟩
abbrev vt (r : Rec × Int) (U : List Rowb) (Γ : Gh) (v : Value) : Prop := ∃ (A0_1 : Option Addr), ∃ (c0_1 : Nat), v = .tuple #[.agg #[.string r.1.key, .slice A0_1 r.1.vers.length c0_1], .int .i64 r.2] ∧ U = [] ∧ Rec.fits Γ A0_1 c0_1 r.1 ∧ I64 r.2 ∧ True
theorem nq {Ab : Option Addr} {cb : Nat} {b : List UInt8} (hb : Sl av Γ Ab b) (hbc : b.length ≤ cb) (hp : Pre [] Γ w0) {r : Rec × Int} (h : ky b = some r) : Calls Tryz.prog 93 #[.slice Ab b.length cb] w0 (Outc Γ [] w0 (vt r)) := by
 refine dJ (N := 8) (rs := [.cell 2 42, .tmp 3]) (args := [.slice Ab b.length cb]) func93 rfl ntmps93 results93 rfl ?_
 obtain ⟨F, hF⟩ : ∃ F : Fm, F = ⟨ids [], w0, Γ⟩ := ⟨_, rfl⟩
 refine WC.here (C := CC F Γ []) ?_ (hF ▸ hp.start)
 refine WC.rs ?_
 refine alV zeroValue42 fun g1 => ?_
 refine aV (k:=WR.done (WC.rs (mV (k:=?_))))
 obtain ⟨z2, hz3, h⟩ := bnd h
 refine ecV [] (caV call152) (fun w hp => mG hb hbc hp hz3) ?_
 rintro Γ4 _ _ hl5 ⟨A8, c9, rfl, rfl, hr10, hr11, _⟩
 refine cwV 5 [_] (sV exV (k:=sV exV (k:=stV 0 (.agg (Rec.cs A8 c9 z2.1).toArray) (Rec.cs A8 c9 z2.1).toArray sizeOf42 (k:=aV (k:=WR.done ?_)))))
 refine WC.ret ?_
 intro w hw
 obtain rfl := Option.some.inj h
 subst hF
 exact ⟨[.agg (Rec.cs A8 c9 z2.1).toArray, ii z2.2], (dp (i := 0) (us := (Rec.cs A8 c9 z2.1)) hw rfl isAgg42 sizeOf42 (by kernel_rfl) rfl (ji (by kernel_rfl) dk)), aO (is := []) (by kernel_rfl) hw rfl ⟨A8, c9, rfl, rfl, hr10, hr11, trivial⟩⟩
abbrev nP (gr_ : Nat) (er_ : Nat) (r : al × Rec) (U : List Rowb) (Γ : Gh) (v : Value) : Prop := ∃ (rowr_' : Rowb), ∃ (A0_1 : Option Addr), ∃ (c0_1 : Nat), v = .agg #[.string r.2.key, .slice A0_1 r.2.vers.length c0_1] ∧ U = [rowr_'] ∧ al.ob er_ Γ gr_ rowr_' r.1 ∧ Rec.fits Γ A0_1 c0_1 r.2 ∧ True
theorem ki {gr_ er_ : Nat} {rowr_ : Rowb} {r_ : al} (hr_ : al.ob er_ Γ gr_ rowr_ r_) (hp : Pre [rowr_] Γ w0) {r : al × Rec} (h : dA r_ = some r) : Calls Tryz.prog 72 #[(pq gr_)] w0 (Outc Γ [rowr_] w0 (nP gr_ er_ r)) := by
 refine dJ (N := 44) (rs := [.cell 2 42]) (args := [(pq gr_)]) func72 rfl ntmps72 results72 rfl ?_
 obtain ⟨F, hF⟩ : ∃ F : Fm, F = ⟨ids [rowr_], w0, Γ⟩ := ⟨_, rfl⟩
 refine WC.here (C := CC F Γ [rowr_]) ?_ (hF ▸ hp.start)
 refine WC.rs ?_
 refine alV zeroValue42 fun g1 => ?_
 refine WR.done (WC.seq ?_)
 obtain ⟨A0_2, c0_2, hrow_2, ho0_2, ho1_2, ho2_2, -⟩ := id hr_
 refine ufC 1 hrow_2 [_, _] ?_
 refine leV fun h03 => ?_
 refine eD (CC F Γ [[(gr_, .cells #[.slice A0_2 r_.b.length c0_2, .int .i64 r_.at_, .bool r_.bad] er_ (0, 0))], [(g1, .cells #[.string ByteArray.empty, .slice none 0 0] 42 (0, 0))]]) (bo_ [0, 0] gR h03) fun k => ?_
 change WH _ _ _ _ (CC F Γ [_, _]) _ 22 _ _
 refine hV 0 k (q:=moV) (k:=hV 1 k (q:=nlV) (k:=hV 2 k (q:=q_fl 0 k7) (k:=hV 3 k (q:=ldV 0 isAgg70) (k:=hV 4 k (q:=moV) (k:=hV 5 k (q:=nlV) (k:=hV 6 k (q:=q_fl 1 fM) (k:=hV 7 k (q:=ldV 0 isAgg3) (k:=?_))))))))
 refine hV 8 k (q:=moV) (k:=hV 9 k (q:=nlV) (k:=hV 10 k (q:=q_fl 0 k7) (k:=hV 11 k (q:=ldV 0 isAgg70) (k:=hV 12 k (q:=ab rfl underlying70) (k:=hV 13 k (q:=ug) (k:=?_))))))
 obtain ⟨hk4, h⟩ := ai h
 refine hV 14 k (q:=ly (c := c0_2) (lo := (min r_.at_ (r_.b.length : Int)).toNat) (xs := r_.b) underlying70 sizeOf5 rfl rfl (iG rfl hk4) (cm hk4)) (k:=?_)
 obtain ⟨z5, hz6, h⟩ := bnd h
 refine WH.each (l := [15, 19]) (by kernel_rfl) (by simp) ?_
 intro i hi; simp only [List.mem_cons, List.not_mem_nil, or_false] at hi
 rcases hi with rfl | rfl
 ·
  refine ⟨_, rfl, ?_⟩
  refine ecV [] (caV call93) (fun w hp => nq (ho1_2.cut_from (c := c0_2) (lo := (min r_.at_ (r_.b.length : Int)).toNat) (cm hk4) ho0_2) (vE ho0_2 ((min r_.at_ (r_.b.length : Int)).toNat)) hp hz6) ?_
  rintro Γ7 _ _ hl8 ⟨A11, c12, rfl, rfl, hr13, hr14, _⟩
  refine cwV 21 [_, _] ?_
  refine WR.nil (nxV (bo_ [0, 0] hl8 h03) fun k => ?_)
  refine hV 16 k (q:=moV) (k:=hV 17 k (q:=exV) (k:=hV 18 k (q:=exV) (k:=wl_ 19 rfl ?_)))
  refine alV zeroValue42 fun g15 => ?_
  refine WR.nil (nxV (bo_ [1, 1] hl8 h03) fun k => ?_)
  refine wl_ 20 rfl (stV 0 (.agg (Rec.cs A11 c12 z5.1).toArray) (Rec.cs A11 c12 z5.1).toArray sizeOf42 (k:=?_))
  refine WR.nil (nxV (bo_ [1, 1] hl8 h03) fun k => ?_)
  refine hV 21 k (q:=aoV) (k:=?_)
  refine WH.done (by kernel_rfl) ?_
  change WC _ _ _ _ _ _
  refine WC.rs (mV (k:=mV (k:=sV nlV (k:=sV (q_fl 2 eX) (k:=sV (ldV 1 isAgg4) (k:=mV (k:=vG0 (h:=fun hg16 => moV) (k:=?_))))))))
  refine vG0 (h:=fun hg17 => bZ rfl (grV hg17)) (k:=sV pkO (k:=sV nlV (k:=sV (q_fl 2 eX) (k:=stV 1 (.bool (r_.bad || (z5.2 != 0))) #[.slice A0_2 r_.b.length c0_2, ii r_.at_, .bool (r_.bad || (z5.2 != 0))] sizeOf4 (k:=WR.done (WC.rs (mV (k:=?_))))))))
  refine mV (k:=sV nlV (k:=sV (q_fl 0 k7) (k:=sV (ldV 1 isAgg70) (k:=sV (ab rfl underlying70) (k:=sV nlV (k:=sV (q_fl 1 fM) (k:=stV 1 (ii (r_.b.length : Int)) #[.slice A0_2 r_.b.length c0_2, ii (r_.b.length : Int), .bool (r_.bad || (z5.2 != 0))] sizeOf3 (k:=?_))))))))
  refine WR.done (WC.rs (sV (ldaV 0 (Rec.cs A11 c12 z5.1) isAgg42 sizeOf42) (k:=stV 2 (.agg (Rec.cs A11 c12 z5.1).toArray) (Rec.cs A11 c12 z5.1).toArray sizeOf42 (k:=WR.done ?_))))
  refine WC.ret ?_
  intro w hw
  obtain ⟨row_18, hrow_18, hob_18⟩ : ∃ rw : Rowb, rw = ([[(gr_, .cells #[.slice A0_2 r_.b.length c0_2, ii (r_.b.length : Int), .bool (r_.bad || (z5.2 != 0))] er_ (0, 0))]] : List Rowb).flatten ∧ al.ob er_ Γ7 gr_ rw (⟨r_.b, (r_.b.length : Int), (r_.bad || (z5.2 != 0))⟩ : al) := ⟨_, rfl, A0_2, c0_2, rfl, ho0_2, (ho1_2.mono hl8), (lX (ho1_2.mono hl8).le), trivial⟩
  have hw := hw.fold (is := [1]) rfl hrow_18
  obtain rfl := Option.some.inj h
  subst hF
  exact ⟨[.agg (Rec.cs A11 c12 z5.1).toArray], (dp (i := 2) (us := (Rec.cs A11 c12 z5.1)) hw rfl isAgg42 sizeOf42 (by kernel_rfl) rfl dk), aO (is := [0]) (by kernel_rfl) hw rfl ⟨row_18, A11, c12, rfl, rfl, hob_18, hr13, trivial⟩⟩
 refine ⟨_, rfl, ?_⟩
 refine alV zeroValue42 fun g7 => ?_
 refine WR.nil (nxV (bo_ [1, 1] gR h03) fun k => ?_)
 refine wl_ 15 rfl ?_
 refine ecV [] (caV call93) (fun w hp => nq (ho1_2.cut_from (c := c0_2) (lo := (min r_.at_ (r_.b.length : Int)).toNat) (cm hk4) ho0_2) (vE ho0_2 ((min r_.at_ (r_.b.length : Int)).toNat)) hp hz6) ?_
 rintro Γ8 _ _ hl9 ⟨A12, c13, rfl, rfl, hr14, hr15, _⟩
 refine cwV 21 [_, _, _] ?_
 refine WR.nil (nxV (bo_ [1, 1] hl9 h03) fun k => ?_)
 refine hV 16 k (q:=moV) (k:=hV 17 k (q:=exV) (k:=hV 18 k (q:=exV) (k:=wl_ 20 rfl (stV 0 (.agg (Rec.cs A12 c13 z5.1).toArray) (Rec.cs A12 c13 z5.1).toArray sizeOf42 (k:=?_)))))
 refine WR.nil (nxV (bo_ [1, 1] hl9 h03) fun k => ?_)
 refine hV 21 k (q:=aoV) (k:=?_)
 refine WH.done (by kernel_rfl) ?_
 change WC _ _ _ _ _ _
 refine WC.rs (mV (k:=mV (k:=sV nlV (k:=sV (q_fl 2 eX) (k:=sV (ldV 1 isAgg4) (k:=mV (k:=vG0 (h:=fun hg16 => moV) (k:=?_))))))))
 refine vG0 (h:=fun hg17 => bZ rfl (grV hg17)) (k:=sV pkO (k:=sV nlV (k:=sV (q_fl 2 eX) (k:=stV 1 (.bool (r_.bad || (z5.2 != 0))) #[.slice A0_2 r_.b.length c0_2, ii r_.at_, .bool (r_.bad || (z5.2 != 0))] sizeOf4 (k:=WR.done (WC.rs (mV (k:=?_))))))))
 refine mV (k:=sV nlV (k:=sV (q_fl 0 k7) (k:=sV (ldV 1 isAgg70) (k:=sV (ab rfl underlying70) (k:=sV nlV (k:=sV (q_fl 1 fM) (k:=stV 1 (ii (r_.b.length : Int)) #[.slice A0_2 r_.b.length c0_2, ii (r_.b.length : Int), .bool (r_.bad || (z5.2 != 0))] sizeOf3 (k:=?_))))))))
 refine WR.done (WC.rs (sV (ldaV 0 (Rec.cs A12 c13 z5.1) isAgg42 sizeOf42) (k:=stV 2 (.agg (Rec.cs A12 c13 z5.1).toArray) (Rec.cs A12 c13 z5.1).toArray sizeOf42 (k:=WR.done ?_))))
 refine WC.ret ?_
 intro w hw
 obtain ⟨row_18, hrow_18, hob_18⟩ : ∃ rw : Rowb, rw = ([[(gr_, .cells #[.slice A0_2 r_.b.length c0_2, ii (r_.b.length : Int), .bool (r_.bad || (z5.2 != 0))] er_ (0, 0))]] : List Rowb).flatten ∧ al.ob er_ Γ8 gr_ rw (⟨r_.b, (r_.b.length : Int), (r_.bad || (z5.2 != 0))⟩ : al) := ⟨_, rfl, A0_2, c0_2, rfl, ho0_2, (ho1_2.mono hl9), (lX (ho1_2.mono hl9).le), trivial⟩
 have hw := hw.fold (is := [1]) rfl hrow_18
 obtain rfl := Option.some.inj h
 subst hF
 exact ⟨[.agg (Rec.cs A12 c13 z5.1).toArray], (dp (i := 2) (us := (Rec.cs A12 c13 z5.1)) hw rfl isAgg42 sizeOf42 (by kernel_rfl) rfl dk), aO (is := [0]) (by kernel_rfl) hw rfl ⟨row_18, A12, c13, rfl, rfl, hob_18, hr14, trivial⟩⟩
abbrev pQ (gr_ : Nat) (er_ : Nat) (r : al × (List Int)) (U : List Rowb) (Γ : Gh) (v : Value) : Prop := ∃ (rowr_' : Rowb), ∃ (A0 : Option Addr), ∃ (c0 : Nat), ∃ (row0 : Rowb), v = .slice A0 r.2.length c0 ∧ U = [rowr_', row0] ∧ al.ob er_ Γ gr_ rowr_' r.1 ∧ Own intT Γ 3 row0 A0 c0 r.2 ∧ True
theorem pg {gr_ er_ : Nat} {rowr_ : Rowb} {r_ : al} (hr_ : al.ob er_ Γ gr_ rowr_ r_) (hp : Pre [rowr_] Γ w0) {r : al × (List Int)} (h : gU r_ = some r) : Calls Tryz.prog 73 #[(pq gr_)] w0 (Outc Γ [rowr_] w0 (pQ gr_ er_ r)) := by
 refine goV [2] func73 ntmps73 results73 hp fun F hF => ?_
 refine WC.rs (aV (k:=WR.done (WC.rs (mV (k:=?_)))))
 obtain ⟨z1, hz2, h⟩ := bnd h
 refine ecV [0] (caV call71) (fun w hp => cR hr_ hp hz2) ?_
 rintro Γ3 _ _ hl4 ⟨row7, rfl, rfl, hr8, hr9, _⟩
 refine cwV 6 [_] (aV (k:=WR.done (WC.seq (WC.seq ?_))))
 obtain ⟨A0_10, c0_10, hrow_10, ho0_10, ho1_10, ho2_10, -⟩ := id hr8
 refine ufC 0 hrow_10 [_] ?_
 refine drV ?_
 refine zV moV (k:=zV moV (k:=zV nlV (k:=zV (q_fl 0 k7) (k:=zV (ldV 0 isAgg70) (k:=zV (ab rfl underlying70) (k:=zV moV (k:=zV nlV (k:=?_))))))))
 refine zV (q_fl 1 fM) (k:=zV (ldV 0 isAgg3) (k:=zV hQ (k:=zV bB (k:=?_))))
 refine WQ.nil ?_
 change WC _ _ _ _ _ _
 refine ciV h (fun hb11 h => ?_) (fun hb11 h => ?_)
 ·
  refine WC.rs (mV (k:=sV nlV (k:=sV (q_fl 2 eX) (k:=stV 0 (.bool true) #[.slice A0_10 z1.1.b.length c0_10, ii z1.1.at_, .bool true] sizeOf4 (k:=WR.done (WC.rs (aV (k:=?_))))))))
  refine WR.done ?_
  refine WC.ret ?_
  intro w hw
  obtain ⟨row_12, hrow_12, hob_12⟩ : ∃ rw : Rowb, rw = ([[(gr_, .cells #[.slice A0_10 z1.1.b.length c0_10, ii z1.1.at_, .bool true] er_ (0, 0))]] : List Rowb).flatten ∧ al.ob er_ Γ3 gr_ rw (⟨z1.1.b, z1.1.at_, true⟩ : al) := ⟨_, rfl, A0_10, c0_10, rfl, ho0_10, ho1_10, ho2_10, trivial⟩
  have hw := hw.fold (is := [0]) rfl hrow_12
  have hw := hw.pad
  obtain rfl := Option.some.inj h
  subst hF
  exact aO (is := [1, 0]) (by kernel_rfl) hw rfl ⟨row_12, none, 0, [], rfl, rfl, hob_12, (Own.nil intT _ 3), trivial⟩
 refine WC.skip (wc_ (WC.rs (aV (k:=WR.done (WC.seq (WC.rs (mV (k:=?_))))))))
 refine mV (k:=WR.done (WC.block ?_))
 refine foC [0] hrow_10 [_] ?_
 refine WC.forU h (fun (i25 : Nat) (s : (List Int) × al) σ w => match s with | (out_16, o21) => ∃ (Γ14 : Gh), ∃ (A17 : Option Addr), ∃ (c18 : Nat), ∃ (row19 : Rowb), ∃ (row22 : Rowb), slots σ [(0, (pq gr_)), (4, .slice A17 out_16.length c18), (22, ii z1.2), (23, ii (i25 : Int))] ∧ CC F Γ14 [row19, row22] w ∧ Gh.le Γ3 Γ14 ∧ Own intT Γ14 3 row19 A17 c18 out_16 ∧ al.ob er_ Γ14 gr_ row22 o21 ∧ True) ?_ ?_
 ·
  intro w hw
  have hw := hw.pad
  exact ⟨Γ3, none, 0, [], row7, slK, hw, gR, (Own.nil intT _ 3), hr8, trivial⟩
 rintro f24 i25 ⟨out_16, o21⟩ σ w hi26 hlt27 hge28 ⟨Γ14, A17, c18, row19, row22, hsl, hw, hl15, ho20, ho23, -⟩
 refine slV hsl hw [_, _] ?_; clear hw hsl
 refine WC.rs (sV aS (k:=WR.done (WC.seq ?_)))
 refine coV (fun hb29 => ?_) (fun hb29 => ?_)
 ·
  have hl30 := ilti hb29
  have h := hlt27 hl30
  refine WC.skip (wc_ (WC.seq (WC.block ?_)))
  refine WC.region ?_
  refine mV (k:=mV (k:=?_))
  obtain ⟨z31, hz32, h⟩ := bnd h
  refine ecV [1] (caV call71) (fun w hp => cR ho23 hp hz32) ?_
  rintro Γ33 _ _ hl34 ⟨row37, rfl, rfl, hr38, hr39, _⟩
  refine cwV 27 [_, _] ?_
  refine bsV #[ii z31.2] 3 fun g40 => ?_
  obtain ⟨hk41, h⟩ := ai h
  refine apV 2 [z31.2] tn (ho20.mono hl34) (of_decide_eq_true hk41) (fun w hw => dR (i := 0) rfl (by exact ⟨rfl, hr39⟩) hw) ?_
  intro row42 A43 c44 ho45
  refine aV (k:=?_)
  refine WR.nil ?_
  change WC _ _ _ _ _ _
  refine WC.region ?_
  refine sV (aC rfl rfl rfl (k5 hl30 hr9)) (k:=mV (k:=?_))
  refine WR.nil ?_
  intro w hw
  exact ⟨hl30, ((out_16 ++ [z31.2]), z31.1), h, Γ33, A43, c44, row42, row37, slK, (hw.on [2, 1]), (hl15.trans hl34), ho45, hr38, trivial⟩
 have h := hge28 (igei hb29)
 refine WC.exit ?_
 change WC _ _ _ _ _ _
 refine WC.rs (mV (k:=aV (k:=WR.done ?_)))
 exact WC.ret fun w hw => re_ r [1, 0] h hF hw ⟨row22, A17, c18, row19, rfl, rfl, ho23, ho20, trivial⟩
abbrev tm (r : am × Bool) (U : List Rowb) (Γ : Gh) (v : Value) : Prop := (r.1 = .nil ∧ (v = .tuple #[.nilIface, .bool r.2] ∧ U = [] ∧ True)) ∨ (∃ x_ : ar, r.1 = .queue_issue x_ ∧ (∃ (A0_1 : Option Addr), ∃ (c0_1 : Nat), v = .tuple #[.iface 98 (.agg #[.string x_.r.key, .slice A0_1 x_.r.vers.length c0_1]), .bool r.2] ∧ U = [] ∧ ar.fits Γ A0_1 c0_1 x_ ∧ True)) ∨ (∃ x_ : aj, r.1 = .queue_did x_ ∧ (∃ (A0_0 : Option Addr), ∃ (c0_0 : Nat), ∃ (A0_2 : Option Addr), ∃ (c0_2 : Nat), v = .tuple #[.iface 101 (.agg #[.slice A0_0 x_.route.length c0_0, .string x_.r.key, .slice A0_2 x_.r.vers.length c0_2]), .bool r.2] ∧ U = [] ∧ aj.fits Γ A0_0 c0_0 A0_2 c0_2 x_ ∧ True)) ∨ (∃ x_ : ak, r.1 = .queue_ack x_ ∧ (v = .tuple #[.iface 107 (.agg #[.int .i64 x_.sink, .int .i64 x_.seq]), .bool r.2] ∧ U = [] ∧ ak.fits Γ  x_ ∧ True)) ∨ (∃ x_ : au, r.1 = .queue_clear x_ ∧ (v = .tuple #[.iface 118 (.agg #[.int .i64 x_.sink]), .bool r.2] ∧ U = [] ∧ au.fits Γ  x_ ∧ True))
theorem gO {Ab : Option Addr} {cb : Nat} {b : List UInt8} (hb : Sl av Γ Ab b) (hbc : b.length ≤ cb) (hp : Pre [] Γ w0) {r : am × Bool} (h : aW b = some r) : Calls Tryz.prog 33 #[.slice Ab b.length cb] w0 (Outc Γ [] w0 (tm r)) := by
 refine goV [2, 3] func33 ntmps33 results33 hp fun F hF => ?_
 refine WC.rs (aU (v := .nilIface) (k:=aV (k:=WR.done (WC.rs (mV (k:=sV (aZ (v := .agg #[.slice Ab b.length cb, ii 0, .bool false]) rfl (jN rfl) (fun w => by kernel_rfl)) (k:=?_)))))))
 refine bxV (v := .agg #[.slice Ab b.length cb, ii 0, .bool false]) fun g1 => ?_
 refine aV (k:=WR.done (WC.rs (aU (v := .nilIface) (k:=WR.done (WC.seq (WC.rs (mV (k:=?_))))))))
 obtain ⟨row_2, hrow_2, hob_2⟩ : ∃ rw : Rowb, rw = ([[(g1, .cells #[.slice Ab b.length cb, ii 0, .bool false] 160 (0, 0))]] : List Rowb).flatten ∧ al.ob 160 Γ g1 rw (⟨b, 0, false⟩ : al) := ⟨_, rfl, Ab, cb, rfl, hbc, hb, iV, trivial⟩
 refine foR [0] hrow_2 [_] ?_
 obtain ⟨z3, hz4, h⟩ := bnd h
 refine ecV [0] (caV call71) (fun w hp => cR hob_2 hp hz4) ?_
 rintro Γ5 _ _ hl6 ⟨row9, rfl, rfl, hr10, hr11, _⟩
 refine cwV 13 [_] (WR.done (WC.block (WC.rs (sV bp (k:=aV (k:=WR.done ?_))))))
 refine ciV h (fun hb12 h => ?_) (fun hb12 h => ?_)
 ·
  refine WC.region ?_
  refine mV (k:=?_)
  obtain ⟨z13, hz14, h⟩ := bnd h
  refine ecV [0] (caV call72) (fun w hp => ki hr10 hp hz14) ?_
  rintro Γ15 _ _ hl16 ⟨row19, A21, c22, rfl, rfl, hr20, hr23, _⟩
  refine cwV 17 [_] (sV (aZ (v := .agg (Rec.cs A21 c22 z13.2).toArray) rfl (jN rfl) (fun w => by kernel_rfl)) (k:=sV (eN rfl rfl (fun w => mkif underlying98 w)) (k:=aU (v := .iface 98 (.agg (Rec.cs A21 c22 z13.2).toArray)) (k:=?_))))
  refine WR.nil ?_
  change WC _ _ _ _ _ _
  refine WC.seq ?_
  obtain ⟨A0_24, c0_24, hrow_24, ho0_24, ho1_24, ho2_24, -⟩ := id hr20
  refine ufC 0 hrow_24 [_] ?_
  refine drV ?_
  refine zV (ay (v := .iface 98 (.agg (Rec.cs A21 c22 z13.2).toArray)) rfl (by kernel_rfl)) (k:=zV moV (k:=zV nlV (k:=zV (q_fl 2 eX) (k:=zV (ldV 0 isAgg4) (k:=zV bu (k:=zV moV (k:=wG1 (h:=fun hg25 => moV) (k:=?_))))))))
  refine wG1 (h:=fun hg26 => nlV (hv:=grV hg26)) (k:=wG1 (h:=fun hg27 => q_fl 1 fM rfl (grV hg27)) (k:=wG1 (h:=fun hg28 => ldV 0 isAgg3 (hx:=grV hg28)) (k:=wG1 (h:=fun hg29 => moV) (k:=wG1 (h:=fun hg30 => ab rfl underlying70 (grV hg30)) (k:=wG1 (h:=fun hg31 => bp rfl (grV hg31) (grV hg31)) (k:=zV pkA (k:=zV (ck (v := .iface 98 (.agg (Rec.cs A21 c22 z13.2).toArray)) rfl (by kernel_rfl)) (k:=?_))))))))
  refine zV aoV (k:=?_)
  refine WQ.nil ?_
  change WC _ _ _ _ _ _
  refine WC.ret ?_
  intro w hw
  obtain rfl := Option.some.inj h
  subst hF
  exact aO (is := []) (by kernel_rfl) hw rfl (.inr (.inl ⟨_, rfl, A21, c22, rfl, rfl, ⟨hr23.1, ⟨hr23.2.1, hr23.2.2⟩⟩, trivial⟩))
 refine WC.rs (sV bp (k:=aV (k:=WR.done ?_)))
 refine ciV h (fun hb32 h => ?_) (fun hb32 h => ?_)
 ·
  refine WC.rs (mV (k:=?_))
  obtain ⟨z33, hz34, h⟩ := bnd h
  refine ecV [0] (caV call73) (fun w hp => pg hr10 hp hz34) ?_
  rintro Γ35 _ _ hl36 ⟨row39, A41, c42, row43, rfl, rfl, hr40, hr44, _⟩
  refine cwV 23 [_, _] (aV (k:=WR.done ?_))
  refine WC.region ?_
  refine mV (k:=mV (k:=?_))
  obtain ⟨z45, hz46, h⟩ := bnd h
  refine ecV [0] (caV call72) (fun w hp => ki hr40 hp hz46) ?_
  rintro Γ47 _ _ hl48 ⟨row51, A53, c54, rfl, rfl, hr52, hr55, _⟩
  refine cwV 26 [_, _] (sV (aZ (v := .agg #[.slice A41 z33.2.length c42, .string z45.2.key, .slice A53 z45.2.vers.length c54]) rfl (iE rfl rfl) (fun w => by kernel_rfl)) (k:=sV (eN rfl rfl (fun w => mkif underlying101 w)) (k:=aU (v := .iface 101 (.agg #[.slice A41 z33.2.length c42, .string z45.2.key, .slice A53 z45.2.vers.length c54])) (k:=?_))))
  refine WR.nil ?_
  change WC _ _ _ _ _ _
  refine WC.seq ?_
  obtain ⟨A0_56, c0_56, hrow_56, ho0_56, ho1_56, ho2_56, -⟩ := id hr52
  refine ufC 0 hrow_56 [_, _] ?_
  refine drV ?_
  refine zV (ay (v := .iface 101 (.agg #[.slice A41 z33.2.length c42, .string z45.2.key, .slice A53 z45.2.vers.length c54])) rfl (by kernel_rfl)) (k:=zV moV (k:=zV nlV (k:=zV (q_fl 2 eX) (k:=zV (ldV 0 isAgg4) (k:=zV bu (k:=zV moV (k:=wG1 (h:=fun hg57 => moV) (k:=?_))))))))
  refine wG1 (h:=fun hg58 => nlV (hv:=grV hg58)) (k:=wG1 (h:=fun hg59 => q_fl 1 fM rfl (grV hg59)) (k:=wG1 (h:=fun hg60 => ldV 0 isAgg3 (hx:=grV hg60)) (k:=wG1 (h:=fun hg61 => moV) (k:=wG1 (h:=fun hg62 => ab rfl underlying70 (grV hg62)) (k:=wG1 (h:=fun hg63 => bp rfl (grV hg63) (grV hg63)) (k:=zV pkA (k:=zV (ck (v := .iface 101 (.agg #[.slice A41 z33.2.length c42, .string z45.2.key, .slice A53 z45.2.vers.length c54])) rfl (by kernel_rfl)) (k:=?_))))))))
  refine zV aoV (k:=?_)
  refine WQ.nil ?_
  change WC _ _ _ _ _ _
  refine WC.ret ?_
  intro w hw
  have hc68 := (hr44.mono hl48).capz
  obtain ⟨Γ64, hw, hl65, hr66⟩ := hw.seal (i := 1) rfl; have hs67 := (hr44.mono hl48).sl hl65 hr66
  obtain rfl := Option.some.inj h
  subst hF
  exact aO (is := []) (by kernel_rfl) hw rfl (.inr (.inr (.inl ⟨_, rfl, A41, c42, A53, c54, rfl, rfl, ⟨⟨hc68, hs67⟩, hr55.1, ⟨hr55.2.1, (hr55.2.2.mono hl65)⟩⟩, trivial⟩)))
 refine WC.rs (sV bp (k:=aV (k:=WR.done ?_)))
 refine ciV h (fun hb69 h => ?_) (fun hb69 h => ?_)
 ·
  cases h
 refine WC.rs (sV bp (k:=aV (k:=WR.done ?_)))
 refine ciV h (fun hb70 h => ?_) (fun hb70 h => ?_)
 ·
  refine WC.rs (mV (k:=?_))
  obtain ⟨z71, hz72, h⟩ := bnd h
  refine ecV [0] (caV call71) (fun w hp => cR hr10 hp hz72) ?_
  rintro Γ73 _ _ hl74 ⟨row77, rfl, rfl, hr78, hr79, _⟩
  refine cwV 38 [_] (aV (k:=WR.done ?_))
  refine WC.region ?_
  refine mV (k:=mV (k:=?_))
  obtain ⟨z80, hz81, h⟩ := bnd h
  refine ecV [0] (caV call71) (fun w hp => cR hr78 hp hz81) ?_
  rintro Γ82 _ _ hl83 ⟨row86, rfl, rfl, hr87, hr88, _⟩
  refine cwV 41 [_] (sV (aZ (v := .agg #[ii z71.2, ii z80.2]) rfl (iE rfl rfl) (fun w => by kernel_rfl)) (k:=sV (eN rfl rfl (fun w => mkif underlying107 w)) (k:=aU (v := .iface 107 (.agg #[ii z71.2, ii z80.2])) (k:=?_))))
  refine WR.nil ?_
  change WC _ _ _ _ _ _
  refine WC.seq ?_
  obtain ⟨A0_89, c0_89, hrow_89, ho0_89, ho1_89, ho2_89, -⟩ := id hr87
  refine ufC 0 hrow_89 [_] ?_
  refine drV ?_
  refine zV (ay (v := .iface 107 (.agg #[ii z71.2, ii z80.2])) rfl (by kernel_rfl)) (k:=zV moV (k:=zV nlV (k:=zV (q_fl 2 eX) (k:=zV (ldV 0 isAgg4) (k:=zV bu (k:=zV moV (k:=wG1 (h:=fun hg90 => moV) (k:=?_))))))))
  refine wG1 (h:=fun hg91 => nlV (hv:=grV hg91)) (k:=wG1 (h:=fun hg92 => q_fl 1 fM rfl (grV hg92)) (k:=wG1 (h:=fun hg93 => ldV 0 isAgg3 (hx:=grV hg93)) (k:=wG1 (h:=fun hg94 => moV) (k:=wG1 (h:=fun hg95 => ab rfl underlying70 (grV hg95)) (k:=wG1 (h:=fun hg96 => bp rfl (grV hg96) (grV hg96)) (k:=zV pkA (k:=zV (ck (v := .iface 107 (.agg #[ii z71.2, ii z80.2])) rfl (by kernel_rfl)) (k:=?_))))))))
  refine zV aoV (k:=?_)
  refine WQ.nil ?_
  change WC _ _ _ _ _ _
  refine WC.ret ?_
  intro w hw
  obtain rfl := Option.some.inj h
  subst hF
  exact aO (is := []) (by kernel_rfl) hw rfl (.inr (.inr (.inr (.inl ⟨_, rfl, rfl, rfl, ⟨hr79, hr88⟩, trivial⟩))))
 refine WC.rs (sV bp (k:=aV (k:=WR.done ?_)))
 refine ciV h (fun hb97 h => ?_) (fun hb97 h => ?_)
 ·
  refine WC.region ?_
  refine mV (k:=?_)
  obtain ⟨z98, hz99, h⟩ := bnd h
  refine ecV [0] (caV call71) (fun w hp => cR hr10 hp hz99) ?_
  rintro Γ100 _ _ hl101 ⟨row104, rfl, rfl, hr105, hr106, _⟩
  refine cwV 47 [_] (sV (aZ (v := .agg #[ii z98.2]) rfl (jN rfl) (fun w => by kernel_rfl)) (k:=sV (eN rfl rfl (fun w => mkif underlying118 w)) (k:=aU (v := .iface 118 (.agg #[ii z98.2])) (k:=?_))))
  refine WR.nil ?_
  change WC _ _ _ _ _ _
  refine WC.seq ?_
  obtain ⟨A0_107, c0_107, hrow_107, ho0_107, ho1_107, ho2_107, -⟩ := id hr105
  refine ufC 0 hrow_107 [_] ?_
  refine drV ?_
  refine zV (ay (v := .iface 118 (.agg #[ii z98.2])) rfl (by kernel_rfl)) (k:=zV moV (k:=zV nlV (k:=zV (q_fl 2 eX) (k:=zV (ldV 0 isAgg4) (k:=zV bu (k:=zV moV (k:=wG1 (h:=fun hg108 => moV) (k:=?_))))))))
  refine wG1 (h:=fun hg109 => nlV (hv:=grV hg109)) (k:=wG1 (h:=fun hg110 => q_fl 1 fM rfl (grV hg110)) (k:=wG1 (h:=fun hg111 => ldV 0 isAgg3 (hx:=grV hg111)) (k:=wG1 (h:=fun hg112 => moV) (k:=wG1 (h:=fun hg113 => ab rfl underlying70 (grV hg113)) (k:=wG1 (h:=fun hg114 => bp rfl (grV hg114) (grV hg114)) (k:=zV pkA (k:=zV (ck (v := .iface 118 (.agg #[ii z98.2])) rfl (by kernel_rfl)) (k:=?_))))))))
  refine zV aoV (k:=?_)
  refine WQ.nil ?_
  change WC _ _ _ _ _ _
  refine WC.ret ?_
  intro w hw
  obtain rfl := Option.some.inj h
  subst hF
  exact aO (is := []) (by kernel_rfl) hw rfl (.inr (.inr (.inr (.inr ⟨_, rfl, rfl, rfl, hr106, trivial⟩))))
 refine WC.rs (sV bp (k:=aV (k:=WR.done ?_)))
 refine ciV h (fun hb115 h => ?_) (fun hb115 h => ?_)
 ·
  cases h
 refine WC.rs (sV bp (k:=aV (k:=WR.done ?_)))
 refine ciV h (fun hb116 h => ?_) (fun hb116 h => ?_)
 ·
  cases h
 refine WC.rs (sV bp (k:=aV (k:=WR.done ?_)))
 refine ciV h (fun hb117 h => ?_) (fun hb117 h => ?_)
 ·
  cases h
 refine WC.rs (sV bp (k:=aV (k:=WR.done ?_)))
 refine ciV h (fun hb118 h => ?_) (fun hb118 h => ?_)
 ·
  cases h
 refine WC.rs (aU (v := .nilIface) (k:=aV (k:=WR.done ?_)))
 refine WC.ret ?_
 intro w hw
 obtain rfl := Option.some.inj h
 subst hF
 exact aO (is := []) (by kernel_rfl) hw rfl (.inl ⟨rfl, rfl, rfl, trivial⟩)
theorem kI {gq : Nat} {eq : Nat × Nat} {rowq : Rowb} {q : a6} (hq : a6.ob eq Γ gq rowq q) (hqr : ∀ p ∈ rowq, Γ p.1 = some p.2) (hs : Sat Γ w0) {r : Bool} (h : kP q = some r) : CQ Tryz.prog 34 #[(pq gq), .nilIface] w0 (.bool r) := by
 refine goQ [4] func34 ntmps34 results34 hs fun F hF => ?_
 refine WC.rs ?_
 refine bxV (v := (pq gq)) fun g1 => ?_
 refine aV (k:=WR.done (WC.seq (WC.rs (mU (v := .nilIface) (k:=WR.done (WC.block (WC.rs ?_)))))))
 refine sV (bc underlying98 zeroValue98 rfl rfl) (k:=sV exV (k:=sV exV (k:=WR.done ?_)))
 refine WC.cfk (b := false) (by kernel_rfl) rfl ?_
 refine WC.rs (sV (bc underlying101 zeroValue101 rfl rfl) (k:=sV exV (k:=sV exV (k:=WR.done ?_))))
 refine WC.cfk (b := false) (by kernel_rfl) rfl ?_
 refine WC.rs (sV (bc underlying166 zeroValue166 rfl rfl) (k:=sV exV (k:=sV exV (k:=WR.done ?_))))
 refine WC.cfk (b := false) (by kernel_rfl) rfl ?_
 refine WC.rs (sV (bc underlying107 zeroValue107 rfl rfl) (k:=sV exV (k:=sV exV (k:=WR.done ?_))))
 refine WC.cfk (b := false) (by kernel_rfl) rfl ?_
 refine WC.rs (sV (bc underlying118 zeroValue118 rfl rfl) (k:=sV exV (k:=sV exV (k:=WR.done ?_))))
 refine WC.cfk (b := false) (by kernel_rfl) rfl ?_
 refine WC.rs (sV (bc underlying168 zeroValue168 rfl rfl) (k:=sV exV (k:=sV exV (k:=WR.done ?_))))
 refine WC.cfk (b := false) (by kernel_rfl) rfl ?_
 refine WC.rs (sV (bc underlying170 zeroValue170 rfl rfl) (k:=sV exV (k:=sV exV (k:=WR.done ?_))))
 refine WC.cfk (b := false) (by kernel_rfl) rfl ?_
 refine WC.rs (sV (bc underlying172 zeroValue172 rfl rfl) (k:=sV exV (k:=sV exV (k:=WR.done ?_))))
 refine WC.cfk (b := false) (by kernel_rfl) rfl ?_
 refine WC.rs (sV (bc underlying173 zeroValue173 rfl rfl) (k:=sV exV (k:=sV exV (k:=WR.done ?_))))
 refine WC.cfk (b := false) (by kernel_rfl) rfl ?_
 refine WC.skip (wc_ (WC.rs (aV (k:=WR.done ?_))))
 exact WC.ret fun w hw => rq_ r h hF hw
abbrev n0 (gq : Nat) (eq : Nat × Nat) (rowq : Rowb) (r : Unit) (U : List Rowb) (Γ : Gh) (v : Value) : Prop := v = .tuple #[] ∧ U = [rowq] ∧ True
theorem cN {gq : Nat} {eq : Nat × Nat} {rowq : Rowb} {q : a6} (hq : a6.ob eq Γ gq rowq q) (hp : Pre [rowq] Γ w0) {r : Unit} (h : cG q = some r) : Calls Tryz.prog 35 #[(pq gq), .nilIface] w0 (Outc Γ [rowq] w0 (n0 gq eq rowq r)) := by
 refine goV [] func35 ntmps35 results35 hp fun F hF => ?_
 refine WC.rs (mU (v := .nilIface) (k:=WR.done (WC.block (WC.rs (sV (bc underlying98 zeroValue98 rfl rfl) (k:=sV exV (k:=sV exV (k:=?_))))))))
 refine WR.done ?_
 refine WC.cfk (b := false) (by kernel_rfl) rfl ?_
 refine WC.rs (sV (bc underlying101 zeroValue101 rfl rfl) (k:=sV exV (k:=sV exV (k:=WR.done ?_))))
 refine WC.cfk (b := false) (by kernel_rfl) rfl ?_
 refine WC.rs (sV (bc underlying166 zeroValue166 rfl rfl) (k:=sV exV (k:=sV exV (k:=WR.done ?_))))
 refine WC.cfk (b := false) (by kernel_rfl) rfl ?_
 refine WC.rs (sV (bc underlying107 zeroValue107 rfl rfl) (k:=sV exV (k:=sV exV (k:=WR.done ?_))))
 refine WC.cfk (b := false) (by kernel_rfl) rfl ?_
 refine WC.rs (sV (bc underlying118 zeroValue118 rfl rfl) (k:=sV exV (k:=sV exV (k:=WR.done ?_))))
 refine WC.cfk (b := false) (by kernel_rfl) rfl ?_
 refine WC.rs (sV (bc underlying168 zeroValue168 rfl rfl) (k:=sV exV (k:=sV exV (k:=WR.done ?_))))
 refine WC.cfk (b := false) (by kernel_rfl) rfl ?_
 refine WC.rs (sV (bc underlying170 zeroValue170 rfl rfl) (k:=sV exV (k:=sV exV (k:=WR.done ?_))))
 refine WC.cfk (b := false) (by kernel_rfl) rfl ?_
 refine WC.rs (sV (bc underlying172 zeroValue172 rfl rfl) (k:=sV exV (k:=sV exV (k:=WR.done ?_))))
 refine WC.cfk (b := false) (by kernel_rfl) rfl ?_
 refine WC.rs (sV (bc underlying173 zeroValue173 rfl rfl) (k:=sV exV (k:=sV exV (k:=WR.done ?_))))
 refine WC.cfk (b := false) (by kernel_rfl) rfl ?_
 refine WC.skip ?_
 intro w hw
 obtain rfl := Option.some.inj h
 subst hF
 exact aO (is := [0]) (by kernel_rfl) hw rfl ⟨rfl, rfl, trivial⟩
theorem oe {gq : Nat} {eq : Nat × Nat} {rowq : Rowb} {q : a6} (hq : a6.ob eq Γ gq rowq q) (hqr : ∀ p ∈ rowq, Γ p.1 = some p.2) {Ar_1 : Option Addr} {cr_1 : Nat} (r_ : Rec) (hr_ : Rec.fits Γ Ar_1 cr_1 r_) (hs : Sat Γ w0) {r : Bool} (h : fY q r_ = some r) : CQ Tryz.prog 80 #[(pq gq), .agg (Rec.cs Ar_1 cr_1 r_).toArray] w0 (.bool r) := by
 refine goQ [4] func80 ntmps80 results80 hs fun F hF => ?_
 refine WC.rs ?_
 refine bxV (v := .agg (Rec.cs Ar_1 cr_1 r_).toArray) fun g1 => ?_
 refine aV (k:=WR.done (WC.seq ?_))
 refine drV ?_
 refine zV (ldaV 0 (Rec.cs Ar_1 cr_1 r_) isAgg42 sizeOf42) (k:=?_)
 obtain ⟨z2, hz3, h⟩ := bnd h
 refine wc rfl rfl rfl (bl (caV call141) (fun w hw => jM (Γ := Gh.all w) r_ (Rec.fits_mono hr_ hw.sat.le_all) (Sat.all w) hz3)) (zV moV (k:=wG1 (h:=fun hg4 => q_fl 1 df) (k:=wG1 (h:=fun hg5 => ldV 0 isAgg40 (hx:=grV hg5)) (k:=wG1 (h:=fun hg6 => ab rfl underlying40 (grV hg6)) (k:=wG1 (h:=fun hg7 => bp rfl (grV hg7)) (k:=zV pkA (k:=zV moV (k:=?_))))))))
 refine wG1 (h:=fun hg8 => q_fl 1 df) (k:=wG1 (h:=fun hg9 => ldV 0 isAgg40 (hx:=grV hg9)) (k:=?_))
 obtain ⟨hk11, h⟩ := ai h
 refine wG1 (h:=fun hg10 => bb (i := 0) underlying40 sizeOf37 rfl (grV hg10) rfl (of_decide_eq_true (bg hk11 hg10)) (hr_.2.2.some_ (of_decide_eq_true (bg hk11 hg10)))) (k:=wG1 (h:=fun hg12 => b6 (0 * 5) cg rfl (grV hg12) (hr_.2.2.some_ (of_decide_eq_true (bg hk11 hg12))) rfl) (k:=wG1 (h:=fun hg13 => b6 (0 * 5) cP rfl (grV hg13) (hr_.2.2.some_ (of_decide_eq_true (bg hk11 hg13))) rfl) (k:=?_)))
 obtain ⟨A15, c16, hx17⟩ := hr_.2.2.verT_at 0
 refine wG1 (h:=fun hg14 => q_ld (c := 0) (v := ii (gt r_.vers 0).dot.s) (hx17 (of_decide_eq_true (bg hk11 hg14))).2 rfl isAgg3 (grV hg14) rfl) (k:=wG1 (h:=fun hg18 => moV) (k:=wG1 (h:=fun hg19 => nlV (hv:=grV hg19)) (k:=wG1 (h:=fun hg20 => q_fl 0 iL rfl (grV hg20)) (k:=wG1 (h:=fun hg21 => q_fl 1 iD rfl (grV hg21)) (k:=?_)))))
 obtain ⟨A2_23, c2_23, A5_23, c5_23, g6_23, r6_23, A7_23, c7_23, A8_23, A9_23, c9_23, r9_23, m11_23, r11_23, A12_23, c12_23, hrow_23, ho0_23, ho1_23, ho2_23, ho3_23, ho4_23, ho5_23, ho6_23, ho7_23, ho8_23, ho9_23, ho10_23, ho11_23, ho12_23, ho13_23, ho14_23, ho15_23, ho16_23, -⟩ := id hq
 have hg_24 : ∀ u ∈ ([[(gq, .cells #[ii q.c_self, ii q.c_sites, .slice A2_23 q.c_links.length c2_23, ii q.c_cap, ii q.c_base, .slice A5_23 q.c_members.length c5_23, (pq g6_23), .slice A7_23 q.applied.length c7_23, .pointer A8_23, .slice A9_23 q.list.length c9_23, ii q.next, .map (some m11_23), .slice A12_23 q.members.length c12_23] eq.1 (0, 0))], r6_23, r9_23, r11_23] : List Rowb), ∀ p ∈ u, Γ p.1 = some p.2 := fun u hu p hp => (fun p hp => (hqr p hp)) p (hrow_23 ▸ List.mem_flatten.2 ⟨u, hu, hp⟩)
 have hgc25 := hg_24 _ (List.mem_cons_self ..) (gq, _) (List.mem_singleton.2 rfl)
 have hgs26 := hg_24 r6_23 (by simp)
 have hgs27 := hg_24 r9_23 (by simp)
 have hgs28 := hg_24 r11_23 (by simp)
 refine wG1 (h:=fun hg22 => gF (v := ii q.c_sites) hgc25 rfl isAgg3 (grV hg22) rfl) (k:=wG1 (h:=fun hg29 => gm rfl (grV hg29) (grV hg29)) (k:=zV pkA (k:=zV aoV (k:=?_))))
 refine WQ.nil ?_
 change WC _ _ _ _ _ _
 exact WC.ret fun w hw => rq_ r h hF hw
theorem tD {Av_ : Option Addr} {cv_ : Nat} {v_ : List Int} (hv_ : Sl intT Γ Av_ v_) (hv_c : v_.length ≤ cv_) (hs : Sat Γ w0) {r : Bool} (h : jY v_ = some r) : CQ Tryz.prog 78 #[.slice Av_ v_.length cv_] w0 (.bool r) := by
 refine goQ [2] func78 ntmps78 results78 hs fun F hF => ?_
 refine WC.rs (aV (k:=WR.done (WC.seq (WC.rs (mV (k:=sV (ab rfl underlying46) (k:=mV (k:=?_))))))))
 refine WR.done (WC.block ?_)
 refine WC.forI h (fun (i2 : Nat) (s : Unit) σ w => match s with | () => slots σ [(0, .slice Av_ v_.length cv_), (5, .slice Av_ v_.length cv_), (6, ii (v_.length : Int)), (7, ii (i2 : Int))] ∧ CC F Γ [] w ∧ True) ?_ ?_
 ·
  intro w hw
  exact ⟨slK, hw, trivial⟩
 rintro f1 i2 ⟨⟩ σ w hi3 hlt4 hge5 ⟨hsl, hw, -⟩
 refine slV hsl hw [] ?_; clear hw hsl
 refine WC.rs (sV aS (k:=WR.done (WC.seq ?_)))
 refine coV (fun hb6 => ?_) (fun hb6 => ?_)
 ·
  have hl7 := ilt hb6
  have h := hlt4 hl7
  refine WC.skip (wc_ (WC.seq (WC.block (WC.rs (sV (bb (i := i2) underlying46 sizeOf2 rfl rfl rfl hl7 (hv_.some_ hl7)) (k:=sV (q_ld (c := 0) (v := ii (gt v_ i2)) (hv_.intT_at hl7).2 rfl isAgg2 rfl rfl) (k:=aV (k:=?_))))))))
  refine WR.done (WC.rs (mV (k:=sV aS (k:=mV (k:=vG0 (h:=fun hg8 => moV) (k:=vG0 (h:=fun hg9 => bB rfl (grV hg9)) (k:=sV pkO (k:=?_))))))))
  refine WR.done ?_
  refine ciV h (fun hb10 h => ?_) (fun hb10 h => ?_)
  ·
   refine WC.rs (aV (k:=WR.done ?_))
   exact WC.ret fun w hw => rq_ r h hF hw
  refine WC.skip (wc_ ?_)
  refine WC.region ?_
  refine sV (aC rfl rfl rfl (aP hl7 hv_.le)) (k:=mV (k:=?_))
  refine WR.nil ?_
  intro w hw
  exact ⟨hl7, (), h, slK, hw, trivial⟩
 have h := hge5 (ige hb6)
 refine WC.exit ?_
 change WC _ _ _ _ _ _
 refine WC.rs (mV (k:=sV (ab rfl underlying46) (k:=sV kE (k:=mV (k:=vG1 (h:=fun hg11 => moV) (k:=vG1 (h:=fun hg12 => ab rfl underlying46 (grV hg12)) (k:=vG1 (h:=fun hg13 => gm rfl (grV hg13)) (k:=?_))))))))
 refine sV pkA (k:=aV (k:=WR.done ?_))
 exact WC.ret fun w hw => rq_ r h hF hw
theorem jz {Av_ : Option Addr} {cv_ : Nat} {v_ : List Int} (hv_ : Sl intT Γ Av_ v_) (hv_c : v_.length ≤ cv_) (s_ : Int) (hs_ : I64 s_) (hs : Sat Γ w0) {r : Dot × Int} (h : fg v_ s_ = some r) : CQ Tryz.prog 36 #[.slice Av_ v_.length cv_, ii s_] w0 (.tuple #[.agg (Dot.cs r.1).toArray, ii r.2]) := by
 refine dJ (N := 37) (rs := [.cell 4 35, .tmp 5]) (args := [.slice Av_ v_.length cv_, ii s_]) func36 rfl ntmps36 results36 rfl ?_
 obtain ⟨F, hF⟩ : ∃ F : Fm, F = ⟨no, w0, Γ⟩ := ⟨_, rfl⟩
 refine WC.here (C := CC F Γ []) ?_ (hF ▸ Cur.start0 hs)
 refine WC.rs ?_
 refine alV zeroValue35 fun g1 => ?_
 refine aV (k:=WR.done (WC.seq (WC.block (WC.rs (mV (k:=?_))))))
 obtain ⟨z2, hz3, h⟩ := bnd h
 refine vqV (caV call78) (fun w hw => tD (Γ := Gh.all w) (hv_.mono hw.sat.le_all) hv_c (Sat.all w) hz3) (k:=sV bu (k:=mV (k:=vG0 (h:=fun hg4 => moV) (k:=vG0 (h:=fun hg5 => aS rfl (grV hg5)) (k:=sV pkO (k:=mV (k:=vG0 (h:=fun hg6 => moV) (k:=?_))))))))
 refine vG0 (h:=fun hg7 => moV) (k:=vG0 (h:=fun hg8 => ab rfl underlying46 (grV hg8)) (k:=vG0 (h:=fun hg9 => bB rfl (grV hg9) (grV hg9)) (k:=sV pkO (k:=aV (k:=WR.done ?_)))))
 refine ciV h (fun hb10 h => ?_) (fun hb10 h => ?_)
 ·
  refine WC.rs (sV (dP (v := .agg #[ii 0, ii 0]) rfl (fun w => by kernel_rfl)) (k:=stV 0 (.agg #[ii 0, ii 0]) #[ii 0, ii 0] sizeOf35 (k:=aV (k:=WR.done ?_))))
  refine WC.ret ?_
  intro w hw
  obtain rfl := Option.some.inj h
  subst hF
  exact ⟨[.agg #[ii 0, ii 0], ii 1], (dp (i := 0) (us := [ii 0, ii 0]) hw rfl isAgg35 sizeOf35 (by kernel_rfl) rfl (ji (by kernel_rfl) dk)), by kernel_rfl, hw.fr⟩
 refine WC.rs (mV (k:=mV (k:=sV hQ (k:=?_))))
 obtain ⟨hk11, h⟩ := ai h
 refine sV (q_ix underlying46 sizeOf2 rfl rfl rfl hk11 (hv_.some_ (bG hk11))) (k:=sV (q_ld (c := 0) (v := ii (gt v_ ((w64 (s_ - 1)).toNat))) (hv_.intT_at (bG hk11)).2 rfl isAgg2 rfl rfl) (k:=sV bp (k:=aV (k:=WR.done ?_))))
 refine ciV h (fun hb12 h => ?_) (fun hb12 h => ?_)
 ·
  refine WC.rs (sV (dP (v := .agg #[ii 0, ii 0]) rfl (fun w => by kernel_rfl)) (k:=stV 0 (.agg #[ii 0, ii 0]) #[ii 0, ii 0] sizeOf35 (k:=aV (k:=WR.done ?_))))
  refine WC.ret ?_
  intro w hw
  obtain rfl := Option.some.inj h
  subst hF
  exact ⟨[.agg #[ii 0, ii 0], ii 40], (dp (i := 0) (us := [ii 0, ii 0]) hw rfl isAgg35 sizeOf35 (by kernel_rfl) rfl (ji (by kernel_rfl) dk)), by kernel_rfl, hw.fr⟩
 refine WC.skip (wc_ (WC.rs (mV (k:=mV (k:=mV (k:=sV hQ (k:=sV (q_ix underlying46 sizeOf2 rfl rfl rfl hk11 (hv_.some_ (bG hk11))) (k:=?_))))))))
 refine sV (q_ld (c := 0) (v := ii (gt v_ ((w64 (s_ - 1)).toNat))) (hv_.intT_at (bG hk11)).2 rfl isAgg2 rfl rfl) (k:=sV eE (k:=sV (aZ (v := .agg #[ii s_, ii (w64 ((gt v_ ((w64 (s_ - 1)).toNat)) + 1))]) rfl (iE rfl rfl) (fun w => by kernel_rfl)) (k:=stV 0 (.agg #[ii s_, ii (w64 ((gt v_ ((w64 (s_ - 1)).toNat)) + 1))]) #[ii s_, ii (w64 ((gt v_ ((w64 (s_ - 1)).toNat)) + 1))] sizeOf35 (k:=aV (k:=WR.done ?_)))))
 refine WC.ret ?_
 intro w hw
 obtain rfl := Option.some.inj h
 subst hF
 exact ⟨[.agg #[ii s_, ii (w64 ((gt v_ ((w64 (s_ - 1)).toNat)) + 1))], ii 0], (dp (i := 0) (us := [ii s_, ii (w64 ((gt v_ ((w64 (s_ - 1)).toNat)) + 1))]) hw rfl isAgg35 sizeOf35 (by kernel_rfl) rfl (ji (by kernel_rfl) dk)), by kernel_rfl, hw.fr⟩
theorem rU {Av_ : Option Addr} {cv_ : Nat} {v_ : List Int} (hv_ : Sl intT Γ Av_ v_) (hv_c : v_.length ≤ cv_) (d : Dot) (hd : Dot.fits Γ  d) (hs : Sat Γ w0) {r : Bool} (h : nn v_ d = some r) : CQ Tryz.prog 85 #[.slice Av_ v_.length cv_, .agg (Dot.cs d).toArray] w0 (.bool r) := by
 refine goQ [4] func85 ntmps85 results85 hs fun F hF => ?_
 refine WC.rs ?_
 refine bxV (v := .agg (Dot.cs d).toArray) fun g1 => ?_
 refine aV (k:=WR.done (WC.seq ?_))
 refine drV ?_
 refine zV (q_fl 0 cP) (k:=zV (ldV 0 isAgg3) (k:=zV kE (k:=zV moV (k:=wG1 (h:=fun hg2 => q_fl 0 cP) (k:=wG1 (h:=fun hg3 => ldV 0 isAgg3 (hx:=grV hg3)) (k:=wG1 (h:=fun hg4 => moV) (k:=wG1 (h:=fun hg5 => ab rfl underlying46 (grV hg5)) (k:=?_))))))))
 refine wG1 (h:=fun hg6 => gm rfl (grV hg6) (grV hg6)) (k:=zV pkA (k:=zV moV (k:=wG1 (h:=fun hg7 => q_fl 1 fD) (k:=wG1 (h:=fun hg8 => ldV 0 isAgg2 (hx:=grV hg8)) (k:=wG1 (h:=fun hg9 => kE rfl (grV hg9)) (k:=zV pkA (k:=zV moV (k:=?_))))))))
 refine wG1 (h:=fun hg10 => q_fl 1 fD) (k:=wG1 (h:=fun hg11 => ldV 0 isAgg2 (hx:=grV hg11)) (k:=wG1 (h:=fun hg12 => moV) (k:=wG1 (h:=fun hg13 => q_fl 0 cP) (k:=wG1 (h:=fun hg14 => ldV 0 isAgg3 (hx:=grV hg14)) (k:=wG1 (h:=fun hg15 => hQ rfl (grV hg15)) (k:=?_))))))
 obtain ⟨hk17, h⟩ := ai h
 refine wG1 (h:=fun hg16 => q_ix underlying46 sizeOf2 rfl (grV hg16) (grV hg16) (bg hk17 hg16) (hv_.some_ (bG (bg hk17 hg16)))) (k:=wG1 (h:=fun hg18 => q_ld (c := 0) (v := ii (gt v_ ((w64 (d.s - 1)).toNat))) (hv_.intT_at (bG (bg hk17 hg18))).2 rfl isAgg2 (grV hg18) rfl) (k:=wG1 (h:=fun hg19 => gm rfl (grV hg19) (grV hg19)) (k:=zV pkA (k:=zV aoV (k:=?_)))))
 refine WQ.nil ?_
 change WC _ _ _ _ _ _
 exact WC.ret fun w hw => rq_ r h hF hw
theorem oR {Av_ : Option Addr} {cv_ : Nat} {v_ : List Int} (hv_ : Sl intT Γ Av_ v_) (hv_c : v_.length ≤ cv_) {Al : Option Addr} {cl : Nat} {l : List Span} (hl : Sl iU Γ Al l) (hlc : l.length ≤ cl) (hs : Sat Γ w0) {r : Bool} (h : nT v_ l = some r) : CQ Tryz.prog 138 #[.slice Av_ v_.length cv_, .slice Al l.length cl] w0 (.bool r) := by
 refine goQ [4] func138 ntmps138 results138 hs fun F hF => ?_
 refine WC.rs (aV (k:=WR.done (WC.seq (WC.rs (mV (k:=sV (ab rfl underlying33) (k:=mV (k:=?_))))))))
 refine WR.done (WC.block ?_)
 refine WC.forI h (fun (i2 : Nat) (s : Unit) σ w => match s with | () => slots σ [(0, .slice Av_ v_.length cv_), (7, .slice Al l.length cl), (8, ii (l.length : Int)), (9, ii (i2 : Int))] ∧ CC F Γ [] w ∧ True) ?_ ?_
 ·
  intro w hw
  exact ⟨slK, hw, trivial⟩
 rintro f1 i2 ⟨⟩ σ w hi3 hlt4 hge5 ⟨hsl, hw, -⟩
 refine slV hsl hw [] ?_; clear hw hsl
 refine WC.rs (sV aS (k:=WR.done (WC.seq ?_)))
 refine coV (fun hb6 => ?_) (fun hb6 => ?_)
 ·
  have hl7 := ilt hb6
  have h := hlt4 hl7
  refine WC.skip (wc_ (WC.seq (WC.block (WC.rs (sV (bb (i := i2) underlying33 sizeOf277 rfl rfl rfl hl7 (hl.some_ hl7)) (k:=sV (gY (c := 0) (vs := (Span.cs (gt l i2))) (hl.spanT_at hl7).2 rfl isAgg277 sizeOf277 rfl rfl rfl) (k:=?_)))))))
  refine alV zeroValue277 fun g8 => ?_
  refine stV 0 (.agg (Span.cs (gt l i2)).toArray) (Span.cs (gt l i2)).toArray sizeOf277 (k:=WR.done (WC.rs (mV (k:=sV (q_fl 0 fL) (k:=sV (ldV 0 isAgg3) (k:=sV (q_fl 2 fK) (k:=sV (ldV 0 isAgg2) (k:=?_))))))))
  refine sV (aZ (v := .agg #[ii (gt l i2).s, ii (gt l i2).t]) rfl (iE rfl rfl) (fun w => by kernel_rfl)) (k:=?_)
  obtain ⟨z9, hz10, h⟩ := bnd h
  refine vqV (caV call85) (fun w hw => rU (Γ := Gh.all w) (hv_.mono hw.sat.le_all) hv_c (⟨(gt l i2).s, (gt l i2).t⟩ : Dot) ⟨(hl.spanT_at hl7).1.1, (hl.spanT_at hl7).1.2.2⟩ (Sat.all w) hz10) (k:=sV bu (k:=WR.done ?_))
  refine ciV h (fun hb11 h => ?_) (fun hb11 h => ?_)
  ·
   refine WC.rs (aV (k:=WR.done ?_))
   exact WC.ret fun w hw => rq_ r h hF hw
  refine WC.skip (wc_ ?_)
  refine WC.region ?_
  refine sV (aC rfl rfl rfl (aP hl7 hl.le)) (k:=mV (k:=?_))
  refine WR.nil ?_
  intro w hw
  exact ⟨hl7, (), h, slK, (hw.on []), trivial⟩
 have h := hge5 (ige hb6)
 refine WC.exit ?_
 change WC _ _ _ _ _ _
 refine WC.rs (aV (k:=WR.done ?_))
 exact WC.ret fun w hw => rq_ r h hF hw
theorem jQ {gq : Nat} {eq : Nat × Nat} {rowq : Rowb} {q : a6} (hq : a6.ob eq Γ gq rowq q) (hqr : ∀ p ∈ rowq, Γ p.1 = some p.2) {Ar_1 : Option Addr} {cr_1 : Nat} (r_ : Rec) (hr_ : Rec.fits Γ Ar_1 cr_1 r_) (hs : Sat Γ w0) {r : Bool} (h : de q r_ = some r) : CQ Tryz.prog 75 #[(pq gq), .agg (Rec.cs Ar_1 cr_1 r_).toArray] w0 (.bool r) := by
 refine goQ [4] func75 ntmps75 results75 hs fun F hF => ?_
 refine WC.rs ?_
 refine bxV (v := .agg (Rec.cs Ar_1 cr_1 r_).toArray) fun g1 => ?_
 refine aV (k:=WR.done (WC.seq (WC.rs (mV (k:=sV (ldaV 0 (Rec.cs Ar_1 cr_1 r_) isAgg42 sizeOf42) (k:=?_))))))
 obtain ⟨z2, hz3, h⟩ := bnd h
 refine vqV (caV call80) (fun w hw => oe (Γ := Gh.all w) (hq.mono hw.sat.le_all) (fun p hp => hw.sat _ _ (hqr p hp)) r_ (Rec.fits_mono hr_ hw.sat.le_all) (Sat.all w) hz3) (k:=sV bu (k:=WR.done ?_))
 refine ciV h (fun hb4 h => ?_) (fun hb4 h => ?_)
 ·
  refine WC.rs (aV (k:=WR.done ?_))
  exact WC.ret fun w hw => rq_ r h hF hw
 refine WC.skip (wc_ (WC.seq ?_))
 refine leV fun h05 => ?_
 refine eD (CC F Γ [[(g1, .cells (Rec.cs Ar_1 cr_1 r_).toArray 42 (0, 0))]]) (bo_ [0] gR h05) fun k => ?_
 change WH _ _ _ _ (CC F Γ [_]) _ 17 _ _
 refine hV 0 k (q:=moV) (k:=hV 1 k (q:=nlV) (k:=hV 2 k (q:=q_fl 7 eR) (k:=?_)))
 obtain ⟨A2_6, c2_6, A5_6, c5_6, g6_6, r6_6, A7_6, c7_6, A8_6, A9_6, c9_6, r9_6, m11_6, r11_6, A12_6, c12_6, hrow_6, ho0_6, ho1_6, ho2_6, ho3_6, ho4_6, ho5_6, ho6_6, ho7_6, ho8_6, ho9_6, ho10_6, ho11_6, ho12_6, ho13_6, ho14_6, ho15_6, ho16_6, -⟩ := id hq
 have hg_7 : ∀ u ∈ ([[(gq, .cells #[ii q.c_self, ii q.c_sites, .slice A2_6 q.c_links.length c2_6, ii q.c_cap, ii q.c_base, .slice A5_6 q.c_members.length c5_6, (pq g6_6), .slice A7_6 q.applied.length c7_6, .pointer A8_6, .slice A9_6 q.list.length c9_6, ii q.next, .map (some m11_6), .slice A12_6 q.members.length c12_6] eq.1 (0, 0))], r6_6, r9_6, r11_6] : List Rowb), ∀ p ∈ u, Γ p.1 = some p.2 := fun u hu p hp => (fun p hp => (hqr p hp)) p (hrow_6 ▸ List.mem_flatten.2 ⟨u, hu, hp⟩)
 have hgc8 := hg_7 _ (List.mem_cons_self ..) (gq, _) (List.mem_singleton.2 rfl)
 have hgs9 := hg_7 r6_6 (by simp)
 have hgs10 := hg_7 r9_6 (by simp)
 have hgs11 := hg_7 r11_6 (by simp)
 refine hV 3 k (q:=gF (v := .slice A7_6 q.applied.length c7_6) hgc8 rfl isAgg46 rfl rfl) (k:=hV 4 k (q:=q_fl 1 df) (k:=hV 5 k (q:=ldV 0 isAgg40) (k:=?_)))
 obtain ⟨hk12, h⟩ := ai h
 refine hV 6 k (q:=bb (i := 0) underlying40 sizeOf37 rfl rfl rfl (of_decide_eq_true hk12) (hr_.2.2.some_ (of_decide_eq_true hk12))) (k:=hV 7 k (q:=b6 (0 * 5) cg rfl rfl (hr_.2.2.some_ (of_decide_eq_true hk12)) rfl) (k:=hV 8 k (q:=b6 (0 * 5) cP rfl rfl (hr_.2.2.some_ (of_decide_eq_true hk12)) rfl) (k:=?_)))
 obtain ⟨A13, c14, hx15⟩ := hr_.2.2.verT_at 0
 refine hV 9 k (q:=q_ld (c := 0) (v := ii (gt r_.vers 0).dot.s) (hx15 (of_decide_eq_true hk12)).2 rfl isAgg3 rfl rfl) (k:=?_)
 obtain ⟨z16, hz17, h⟩ := bnd h
 refine WH.each (l := [10, 14]) (by kernel_rfl) (by simp) ?_
 intro i hi; simp only [List.mem_cons, List.not_mem_nil, or_false] at hi
 rcases hi with rfl | rfl
 ·
  refine ⟨_, rfl, ?_⟩
  refine vqV (caV call36) (fun w hw => jz (Γ := Gh.all w) (ho10_6.mono hw.sat.le_all) ho9_6 ((gt r_.vers 0).dot.s) (hx15 (of_decide_eq_true hk12)).1.1 (Sat.all w) hz17) (k:=?_)
  refine WR.nil (nxV (bo_ [0] gR h05) fun k => ?_)
  refine hV 11 k (q:=moV) (k:=hV 12 k (q:=exV) (k:=hV 13 k (q:=exV) (k:=wl_ 14 rfl ?_)))
  refine alV zeroValue35 fun g18 => ?_
  refine WR.nil (nxV (bo_ [1] gR h05) fun k => ?_)
  refine wl_ 15 rfl (stV 0 (.agg (Dot.cs z16.1).toArray) (Dot.cs z16.1).toArray sizeOf35 (k:=?_))
  refine WR.nil (nxV (bo_ [1] gR h05) fun k => ?_)
  refine hV 16 k (q:=aoV) (k:=?_)
  refine WH.done (by kernel_rfl) ?_
  change WC _ _ _ _ _ _
  refine WC.seq ?_
  refine drV ?_
  refine zV moV (k:=zV bp (k:=zV moV (k:=wG1 (h:=fun hg19 => ldaV 0 (Dot.cs z16.1) isAgg35 sizeOf35) (k:=wG1 (h:=fun hg20 => q_fl 1 df) (k:=wG1 (h:=fun hg21 => ldV 1 isAgg40 (hx:=grV hg21)) (k:=wG1 (h:=fun hg22 => bb (i := 0) underlying40 sizeOf37 rfl (grV hg22) rfl (of_decide_eq_true hk12) (hr_.2.2.some_ (of_decide_eq_true hk12))) (k:=wG1 (h:=fun hg23 => b6 (0 * 5) cg rfl (grV hg23) (hr_.2.2.some_ (of_decide_eq_true hk12)) rfl) (k:=?_))))))))
  refine wG1 (h:=fun hg24 => gY (c := 0) (vs := [ii (gt r_.vers 0).dot.s, ii (gt r_.vers 0).dot.n]) (hx15 (of_decide_eq_true hk12)).2 rfl isAgg35 sizeOf35 (grV hg24) rfl rfl) (k:=wG1 (h:=fun hg25 => si (a := z16.1) (b := (gt r_.vers 0).dot) rfl (grV hg25) (grV hg25)) (k:=zV pkA (k:=zV moV (k:=wG1 (h:=fun hg26 => moV) (k:=wG1 (h:=fun hg27 => nlV (hv:=grV hg27)) (k:=wG1 (h:=fun hg28 => q_fl 7 eR rfl (grV hg28)) (k:=wG1 (h:=fun hg29 => gF (v := .slice A7_6 q.applied.length c7_6) hgc8 rfl isAgg46 (grV hg29) rfl) (k:=?_))))))))
  refine wG1 (h:=fun hg30 => q_fl 1 df) (k:=wG1 (h:=fun hg31 => ldV 1 isAgg40 (hx:=grV hg31)) (k:=wG1 (h:=fun hg32 => bb (i := 0) underlying40 sizeOf37 rfl (grV hg32) rfl (of_decide_eq_true hk12) (hr_.2.2.some_ (of_decide_eq_true hk12))) (k:=wG1 (h:=fun hg33 => b6 (0 * 5 + 2) fF rfl (grV hg33) (hr_.2.2.some_ (of_decide_eq_true hk12)) rfl) (k:=wG1 (h:=fun hg34 => q_ld (c := 2) (v := .slice A13 ((gt r_.vers 0).past).length c14) (hx15 (of_decide_eq_true hk12)).2 rfl isAgg33 (grV hg34) rfl) (k:=?_)))))
  obtain ⟨z36, hz37, h⟩ := bnd h
  refine wC1 (h:=fun hg35 => bl (aR call138 rfl rfl (fh (grV hg35) (grV hg35))) (fun w hw => oR (Γ := Gh.all w) (ho10_6.mono hw.sat.le_all) ho9_6 ((hx15 (of_decide_eq_true hk12)).1.2.2.1.2.mono hw.sat.le_all) (hx15 (of_decide_eq_true hk12)).1.2.2.1.1 (Sat.all w) (eQ hz37 hg35))) (k:=zV pkA (k:=zV aoV (k:=?_)))
  refine WQ.nil ?_
  change WC _ _ _ _ _ _
  exact WC.ret fun w hw => rq_ r h hF hw
 refine ⟨_, rfl, ?_⟩
 refine alV zeroValue35 fun g18 => ?_
 refine WR.nil (nxV (bo_ [1] gR h05) fun k => ?_)
 refine wl_ 10 rfl (vqV (caV call36) (fun w hw => jz (Γ := Gh.all w) (ho10_6.mono hw.sat.le_all) ho9_6 ((gt r_.vers 0).dot.s) (hx15 (of_decide_eq_true hk12)).1.1 (Sat.all w) hz17) (k:=?_))
 refine WR.nil (nxV (bo_ [1] gR h05) fun k => ?_)
 refine hV 11 k (q:=moV) (k:=hV 12 k (q:=exV) (k:=hV 13 k (q:=exV) (k:=wl_ 15 rfl (stV 0 (.agg (Dot.cs z16.1).toArray) (Dot.cs z16.1).toArray sizeOf35 (k:=?_)))))
 refine WR.nil (nxV (bo_ [1] gR h05) fun k => ?_)
 refine hV 16 k (q:=aoV) (k:=?_)
 refine WH.done (by kernel_rfl) ?_
 change WC _ _ _ _ _ _
 refine WC.seq ?_
 refine drV ?_
 refine zV moV (k:=zV bp (k:=zV moV (k:=wG1 (h:=fun hg19 => ldaV 0 (Dot.cs z16.1) isAgg35 sizeOf35) (k:=wG1 (h:=fun hg20 => q_fl 1 df) (k:=wG1 (h:=fun hg21 => ldV 1 isAgg40 (hx:=grV hg21)) (k:=wG1 (h:=fun hg22 => bb (i := 0) underlying40 sizeOf37 rfl (grV hg22) rfl (of_decide_eq_true hk12) (hr_.2.2.some_ (of_decide_eq_true hk12))) (k:=wG1 (h:=fun hg23 => b6 (0 * 5) cg rfl (grV hg23) (hr_.2.2.some_ (of_decide_eq_true hk12)) rfl) (k:=?_))))))))
 refine wG1 (h:=fun hg24 => gY (c := 0) (vs := [ii (gt r_.vers 0).dot.s, ii (gt r_.vers 0).dot.n]) (hx15 (of_decide_eq_true hk12)).2 rfl isAgg35 sizeOf35 (grV hg24) rfl rfl) (k:=wG1 (h:=fun hg25 => si (a := z16.1) (b := (gt r_.vers 0).dot) rfl (grV hg25) (grV hg25)) (k:=zV pkA (k:=zV moV (k:=wG1 (h:=fun hg26 => moV) (k:=wG1 (h:=fun hg27 => nlV (hv:=grV hg27)) (k:=wG1 (h:=fun hg28 => q_fl 7 eR rfl (grV hg28)) (k:=wG1 (h:=fun hg29 => gF (v := .slice A7_6 q.applied.length c7_6) hgc8 rfl isAgg46 (grV hg29) rfl) (k:=?_))))))))
 refine wG1 (h:=fun hg30 => q_fl 1 df) (k:=wG1 (h:=fun hg31 => ldV 1 isAgg40 (hx:=grV hg31)) (k:=wG1 (h:=fun hg32 => bb (i := 0) underlying40 sizeOf37 rfl (grV hg32) rfl (of_decide_eq_true hk12) (hr_.2.2.some_ (of_decide_eq_true hk12))) (k:=wG1 (h:=fun hg33 => b6 (0 * 5 + 2) fF rfl (grV hg33) (hr_.2.2.some_ (of_decide_eq_true hk12)) rfl) (k:=wG1 (h:=fun hg34 => q_ld (c := 2) (v := .slice A13 ((gt r_.vers 0).past).length c14) (hx15 (of_decide_eq_true hk12)).2 rfl isAgg33 (grV hg34) rfl) (k:=?_)))))
 obtain ⟨z36, hz37, h⟩ := bnd h
 refine wC1 (h:=fun hg35 => bl (aR call138 rfl rfl (fh (grV hg35) (grV hg35))) (fun w hw => oR (Γ := Gh.all w) (ho10_6.mono hw.sat.le_all) ho9_6 ((hx15 (of_decide_eq_true hk12)).1.2.2.1.2.mono hw.sat.le_all) (hx15 (of_decide_eq_true hk12)).1.2.2.1.1 (Sat.all w) (eQ hz37 hg35))) (k:=zV pkA (k:=zV aoV (k:=?_)))
 refine WQ.nil ?_
 change WC _ _ _ _ _ _
 exact WC.ret fun w hw => rq_ r h hF hw
theorem gr {gq : Nat} {eq : Nat × Nat} {rowq : Rowb} {q : a6} (hq : a6.ob eq Γ gq rowq q) (hqr : ∀ p ∈ rowq, Γ p.1 = some p.2) {Ax_1 : Option Addr} {cx_1 : Nat} (x_ : ar) (hx_ : ar.fits Γ Ax_1 cx_1 x_) (hs : Sat Γ w0) {r : Bool} (h : bC q x_ = some r) : CQ Tryz.prog 34 #[(pq gq), .iface 98 (.agg (Rec.cs Ax_1 cx_1 x_.r).toArray)] w0 (.bool r) := by
 refine goQ [4] func34 ntmps34 results34 hs fun F hF => ?_
 refine WC.rs ?_
 refine bxV (v := (pq gq)) fun g1 => ?_
 refine aV (k:=WR.done (WC.seq (WC.rs (mU (v := .iface 98 (.agg (Rec.cs Ax_1 cx_1 x_.r).toArray)) (k:=WR.done (WC.block (WC.rs ?_)))))))
 refine sV (dv underlying98 rfl rfl) (k:=sV exV (k:=sV exV (k:=WR.done ?_)))
 refine WC.ctk (b := true) (by kernel_rfl) rfl ?_
 refine WC.rs ?_
 refine alV zeroValue98 fun g2 => ?_
 refine stV 0 (.agg (Rec.cs Ax_1 cx_1 x_.r).toArray) (Rec.cs Ax_1 cx_1 x_.r).toArray sizeOf98 (k:=WR.done (WC.seq ?_))
 refine drV ?_
 refine zV (ldV 1 isAgg27) (k:=zV nlV (k:=zV (q_fl 8 iM) (k:=?_)))
 obtain ⟨A2_3, c2_3, A5_3, c5_3, g6_3, r6_3, A7_3, c7_3, A8_3, A9_3, c9_3, r9_3, m11_3, r11_3, A12_3, c12_3, hrow_3, ho0_3, ho1_3, ho2_3, ho3_3, ho4_3, ho5_3, ho6_3, ho7_3, ho8_3, ho9_3, ho10_3, ho11_3, ho12_3, ho13_3, ho14_3, ho15_3, ho16_3, -⟩ := id hq
 have hg_4 : ∀ u ∈ ([[(gq, .cells #[ii q.c_self, ii q.c_sites, .slice A2_3 q.c_links.length c2_3, ii q.c_cap, ii q.c_base, .slice A5_3 q.c_members.length c5_3, (pq g6_3), .slice A7_3 q.applied.length c7_3, .pointer A8_3, .slice A9_3 q.list.length c9_3, ii q.next, .map (some m11_3), .slice A12_3 q.members.length c12_3] eq.1 (0, 0))], r6_3, r9_3, r11_3] : List Rowb), ∀ p ∈ u, Γ p.1 = some p.2 := fun u hu p hp => (fun p hp => (hqr p hp)) p (hrow_3 ▸ List.mem_flatten.2 ⟨u, hu, hp⟩)
 have hgc5 := hg_4 _ (List.mem_cons_self ..) (gq, _) (List.mem_singleton.2 rfl)
 have hgs6 := hg_4 r6_3 (by simp)
 have hgs7 := hg_4 r9_3 (by simp)
 have hgs8 := hg_4 r11_3 (by simp)
 refine zV (gF (v := .pointer A8_3) hgc5 rfl isAgg81 rfl rfl) (k:=zV (u7 ho11_3 underlying81 rfl rfl rfl) (k:=zV moV (k:=wG1 (h:=fun hg9 => ldV 1 isAgg27) (k:=wG1 (h:=fun hg10 => q_fl 0 oI) (k:=wG1 (h:=fun hg11 => ldaV 0 (Rec.cs Ax_1 cx_1 x_.r) isAgg42 sizeOf42 (hx:=grV hg11)) (k:=?_))))))
 obtain ⟨z13, hz14, h⟩ := bnd h
 refine wC1 (h:=fun hg12 => bl (aR call75 rfl rfl (fh (grV hg12) (grV hg12))) (fun w hw => jQ (Γ := Gh.all w) (hq.mono hw.sat.le_all) (fun p hp => hw.sat _ _ (hqr p hp)) x_.r (Rec.fits_mono ⟨hx_.1, ⟨hx_.2.1, hx_.2.2⟩⟩ hw.sat.le_all) (Sat.all w) (eQ hz14 hg12))) (k:=zV pkA (k:=zV moV (k:=wG1 (h:=fun hg15 => q_fl 0 oI) (k:=wG1 (h:=fun hg16 => q_fl 1 df rfl (grV hg16)) (k:=wG1 (h:=fun hg17 => ldV 0 isAgg40 (hx:=grV hg17)) (k:=?_))))))
 obtain ⟨hk19, h⟩ := ai h
 refine wG1 (h:=fun hg18 => bb (i := 0) underlying40 sizeOf37 rfl (grV hg18) rfl (of_decide_eq_true (bg hk19 hg18)) (hx_.2.2.some_ (of_decide_eq_true (bg hk19 hg18)))) (k:=wG1 (h:=fun hg20 => b6 (0 * 5) cg rfl (grV hg20) (hx_.2.2.some_ (of_decide_eq_true (bg hk19 hg20))) rfl) (k:=wG1 (h:=fun hg21 => b6 (0 * 5) cP rfl (grV hg21) (hx_.2.2.some_ (of_decide_eq_true (bg hk19 hg21))) rfl) (k:=?_)))
 obtain ⟨A23, c24, hx25⟩ := hx_.2.2.verT_at 0
 refine wG1 (h:=fun hg22 => q_ld (c := 0) (v := ii (gt x_.r.vers 0).dot.s) (hx25 (of_decide_eq_true (bg hk19 hg22))).2 rfl isAgg3 (grV hg22) rfl) (k:=wG1 (h:=fun hg26 => ldV 1 isAgg27) (k:=wG1 (h:=fun hg27 => nlV (hv:=grV hg27)) (k:=wG1 (h:=fun hg28 => q_fl 0 iL rfl (grV hg28)) (k:=wG1 (h:=fun hg29 => q_fl 0 iJ rfl (grV hg29)) (k:=wG1 (h:=fun hg30 => gF (v := ii q.c_self) hgc5 rfl isAgg3 (grV hg30) rfl) (k:=wG1 (h:=fun hg31 => bp rfl (grV hg31) (grV hg31)) (k:=zV pkA (k:=?_))))))))
 refine zV aoV (k:=?_)
 refine WQ.nil ?_
 change WC _ _ _ _ _ _
 exact WC.ret fun w hw => rq_ r h hF hw
abbrev lS (gq : Nat) (eq : Nat × Nat) (r : a6) (U : List Rowb) (Γ : Gh) (v : Value) : Prop := ∃ (rowq' : Rowb), v = .tuple #[] ∧ U = [rowq'] ∧ a6.ob eq Γ gq rowq' r ∧ True
theorem bU {gq : Nat} {eq : Nat × Nat} {rowq : Rowb} {q : a6} (hq : a6.ob eq Γ gq rowq q) {Ax_1 : Option Addr} {cx_1 : Nat} (x_ : ar) (hx_ : ar.fits Γ Ax_1 cx_1 x_) (hp : Pre [rowq] Γ w0) {r : a6} (h : aT q x_ = some r) : Calls Tryz.prog 35 #[(pq gq), .iface 98 (.agg (Rec.cs Ax_1 cx_1 x_.r).toArray)] w0 (Outc Γ [rowq] w0 (lS gq eq r)) := by
 refine goV [] func35 ntmps35 results35 hp fun F hF => ?_
 refine WC.rs (mU (v := .iface 98 (.agg (Rec.cs Ax_1 cx_1 x_.r).toArray)) (k:=WR.done (WC.block (WC.rs (sV (dv underlying98 rfl rfl) (k:=sV exV (k:=sV exV (k:=?_))))))))
 refine WR.done ?_
 refine WC.ctk (b := true) (by kernel_rfl) rfl ?_
 refine WC.rs ?_
 refine alV zeroValue98 fun g1 => ?_
 refine stV 0 (.agg (Rec.cs Ax_1 cx_1 x_.r).toArray) (Rec.cs Ax_1 cx_1 x_.r).toArray sizeOf98 (k:=WR.done ?_)
 refine WC.region ?_
 refine mV (k:=sV (q_fl 0 oI) (k:=sV nlV (k:=sV (q_fl 8 iM) (k:=?_))))
 obtain ⟨A2_2, c2_2, A5_2, c5_2, g6_2, r6_2, A7_2, c7_2, A8_2, A9_2, c9_2, r9_2, m11_2, r11_2, A12_2, c12_2, hrow_2, ho0_2, ho1_2, ho2_2, ho3_2, ho4_2, ho5_2, ho6_2, ho7_2, ho8_2, ho9_2, ho10_2, ho11_2, ho12_2, ho13_2, ho14_2, ho15_2, ho16_2, -⟩ := id hq
 refine ufR 1 hrow_2 [_, _, _, _, _] ?_
 have ho3 : Own recT Γ 98 [(g1, .cells (Rec.cs Ax_1 cx_1 x_.r).toArray 98 (0, 0))] (some ⟨g1, 0, none⟩) 1 [x_.r] := Own.of_blockL (T := recT) (ys := [x_.r]) [(Rec.cs Ax_1 cx_1 x_.r)] rfl (show 1 ≤ lim by decide) ⟨⟨Ax_1, cx_1, rfl, ⟨hx_.1, ⟨hx_.2.1, hx_.2.2⟩⟩⟩, trivial⟩
 have hc8 := ho3.capz
 refine seR 4 [_, _, _, _, _] fun Γ4 hl5 hr6 => ?_
 have hs7 := ho3.sl hl5 hr6
 refine stV 0 ((pq g1)) #[ii q.c_self, ii q.c_sites, .slice A2_2 q.c_links.length c2_2, ii q.c_cap, ii q.c_base, .slice A5_2 q.c_members.length c5_2, (pq g6_2), .slice A7_2 q.applied.length c7_2, (pq g1), .slice A9_2 q.list.length c9_2, ii q.next, .map (some m11_2), .slice A12_2 q.members.length c12_2] sizeOf81 (k:=?_)
 refine WR.nil ?_
 intro w hw
 obtain ⟨row_9, hrow_9, hob_9⟩ : ∃ rw : Rowb, rw = ([[(gq, .cells #[ii q.c_self, ii q.c_sites, .slice A2_2 q.c_links.length c2_2, ii q.c_cap, ii q.c_base, .slice A5_2 q.c_members.length c5_2, (pq g6_2), .slice A7_2 q.applied.length c7_2, (pq g1), .slice A9_2 q.list.length c9_2, ii q.next, .map (some m11_2), .slice A12_2 q.members.length c12_2] eq.1 (0, 0))], r6_2, r9_2, r11_2] : List Rowb).flatten ∧ a6.ob eq Γ4 gq rw (⟨q.c_self, q.c_sites, q.c_links, q.c_cap, q.c_base, q.c_members, q.log, q.applied, (some x_.r), q.list, q.next, q.gaps, q.members⟩ : a6) := ⟨_, rfl, A2_2, c2_2, A5_2, c5_2, g6_2, r6_2, A7_2, c7_2, (some ⟨g1, 0, none⟩), A9_2, c9_2, r9_2, m11_2, r11_2, A12_2, c12_2, rfl, ho0_2, ho1_2, ho2_2, (ho3_2.mono hl5), ho4_2, ho5_2, ho6_2, (ho7_2.mono hl5), (ho8_2.mono hl5), ho9_2, (ho10_2.mono hl5), (Pd.of hs7), (ho12_2.mono hl5), ho13_2, (ho14_2.mono hl5), ho15_2, (ho16_2.mono hl5), trivial⟩
 have hw := hw.fold (is := [0, 0, 0, 0]) rfl hrow_9
 obtain rfl := Option.some.inj h
 subst hF
 exact aO (is := [0]) (by kernel_rfl) hw rfl ⟨row_9, rfl, rfl, hob_9, trivial⟩
theorem lE {As_ : Option Addr} {cs_ : Nat} {s_ : List Int} (hs_ : Sl intT Γ As_ s_) (hs_c : s_.length ≤ cs_) (v_ : Int) (hv_ : I64 v_) (hs : Sat Γ w0) {r : Int} (h : dm s_ v_ = some r) : CQ Tryz.prog 195 #[.slice As_ s_.length cs_, ii v_] w0 (ii r) := by
 refine goQ [4] func195 ntmps195 results195 hs fun F hF => ?_
 refine WC.rs (aV (k:=WR.done (WC.seq (WC.rs (mV (k:=sV (ab rfl underlying22) (k:=mV (k:=?_))))))))
 refine WR.done (WC.block ?_)
 refine WC.forI h (fun (i2 : Nat) (s : Unit) σ w => match s with | () => slots σ [(0, .slice As_ s_.length cs_), (1, ii v_), (7, ii (s_.length : Int)), (8, ii (i2 : Int))] ∧ CC F Γ [] w ∧ True) ?_ ?_
 ·
  intro w hw
  exact ⟨slK, hw, trivial⟩
 rintro f1 i2 ⟨⟩ σ w hi3 hlt4 hge5 ⟨hsl, hw, -⟩
 refine slV hsl hw [] ?_; clear hw hsl
 refine WC.rs (sV aS (k:=WR.done (WC.seq ?_)))
 refine coV (fun hb6 => ?_) (fun hb6 => ?_)
 ·
  have hl7 := ilt hb6
  have h := hlt4 hl7
  refine WC.skip (wc_ (WC.seq (WC.block (WC.rs (mV (k:=aV (k:=WR.done ?_)))))))
  refine WC.rs (mV (k:=mV (k:=mV (k:=sV (bb (i := i2) underlying22 sizeOf3 rfl rfl rfl hl7 (hs_.some_ hl7)) (k:=sV (q_ld (c := 0) (v := ii (gt s_ i2)) (hs_.intT_at hl7).2 rfl isAgg3 rfl rfl) (k:=sV bp (k:=WR.done ?_)))))))
  refine ciV h (fun hb8 h => ?_) (fun hb8 h => ?_)
  ·
   refine WC.rs (mV (k:=aV (k:=WR.done ?_)))
   exact WC.ret fun w hw => rq_ r h hF hw
  refine WC.skip (wc_ ?_)
  refine WC.region ?_
  refine sV (aC rfl rfl rfl (aP hl7 hs_.le)) (k:=mV (k:=?_))
  refine WR.nil ?_
  intro w hw
  exact ⟨hl7, (), h, slK, hw, trivial⟩
 have h := hge5 (ige hb6)
 refine WC.exit ?_
 change WC _ _ _ _ _ _
 refine WC.rs (aV (k:=WR.done ?_))
 exact WC.ret fun w hw => rq_ r h hF hw
theorem dT {As_ : Option Addr} {cs_ : Nat} {s_ : List Int} (hs_ : Sl intT Γ As_ s_) (hs_c : s_.length ≤ cs_) (v_ : Int) (hv_ : I64 v_) (hs : Sat Γ w0) {r : Bool} (h : aY s_ v_ = some r) : CQ Tryz.prog 139 #[.slice As_ s_.length cs_, ii v_] w0 (.bool r) := by
 refine goQ [4] func139 ntmps139 results139 hs fun F hF => ?_
 refine WC.rs (aV (k:=WR.done (WC.rs (mV (k:=mV (k:=?_))))))
 obtain ⟨z1, hz2, h⟩ := bnd h
 refine vqV (caV call195) (fun w hw => lE (Γ := Gh.all w) (hs_.mono hw.sat.le_all) hs_c v_ hv_ (Sat.all w) hz2) (k:=sV kE (k:=aV (k:=WR.done ?_)))
 exact WC.ret fun w hw => rq_ r h hF hw
theorem n8 {gq : Nat} {eq : Nat × Nat} {rowq : Rowb} {q : a6} (hq : a6.ob eq Γ gq rowq q) (hqr : ∀ p ∈ rowq, Γ p.1 = some p.2) {Al : Option Addr} {cl : Nat} {l : List Int} (hl : Sl intT Γ Al l) (hlc : l.length ≤ cl) (hs : Sat Γ w0) {r : Bool} (h : eF q l = some r) : CQ Tryz.prog 76 #[(pq gq), .slice Al l.length cl] w0 (.bool r) := by
 refine goQ [4] func76 ntmps76 results76 hs fun F hF => ?_
 refine WC.rs (aV (k:=WR.done (WC.seq (WC.rs (mV (k:=sV (ab rfl underlying22) (k:=mV (k:=?_))))))))
 refine WR.done (WC.block ?_)
 refine WC.forI h (fun (i2 : Nat) (s : Unit) σ w => match s with | () => slots σ [(0, (pq gq)), (1, .slice Al l.length cl), (7, .slice Al l.length cl), (8, ii (l.length : Int)), (9, ii (i2 : Int))] ∧ CC F Γ [] w ∧ True) ?_ ?_
 ·
  intro w hw
  exact ⟨slK, hw, trivial⟩
 rintro f1 i2 ⟨⟩ σ w hi3 hlt4 hge5 ⟨hsl, hw, -⟩
 refine slV hsl hw [] ?_; clear hw hsl
 refine WC.rs (sV aS (k:=WR.done (WC.seq ?_)))
 refine coV (fun hb6 => ?_) (fun hb6 => ?_)
 ·
  have hl7 := ilt hb6
  have h := hlt4 hl7
  refine WC.skip (wc_ (WC.seq (WC.block (WC.rs (mV (k:=sV (bb (i := i2) underlying22 sizeOf3 rfl rfl rfl hl7 (hl.some_ hl7)) (k:=sV (q_ld (c := 0) (v := ii (gt l i2)) (hl.intT_at hl7).2 rfl isAgg3 rfl rfl) (k:=?_))))))))
  refine aV (k:=aV (k:=WR.done (WC.rs (mV (k:=sV aS (k:=mV (k:=vG0 (h:=fun hg8 => moV) (k:=?_))))))))
  refine vG0 (h:=fun hg9 => moV) (k:=vG0 (h:=fun hg10 => nlV (hv:=grV hg10)) (k:=vG0 (h:=fun hg11 => q_fl 0 iL rfl (grV hg11)) (k:=vG0 (h:=fun hg12 => q_fl 1 iD rfl (grV hg12)) (k:=?_))))
  obtain ⟨A2_14, c2_14, A5_14, c5_14, g6_14, r6_14, A7_14, c7_14, A8_14, A9_14, c9_14, r9_14, m11_14, r11_14, A12_14, c12_14, hrow_14, ho0_14, ho1_14, ho2_14, ho3_14, ho4_14, ho5_14, ho6_14, ho7_14, ho8_14, ho9_14, ho10_14, ho11_14, ho12_14, ho13_14, ho14_14, ho15_14, ho16_14, -⟩ := id hq
  have hg_15 : ∀ u ∈ ([[(gq, .cells #[ii q.c_self, ii q.c_sites, .slice A2_14 q.c_links.length c2_14, ii q.c_cap, ii q.c_base, .slice A5_14 q.c_members.length c5_14, (pq g6_14), .slice A7_14 q.applied.length c7_14, .pointer A8_14, .slice A9_14 q.list.length c9_14, ii q.next, .map (some m11_14), .slice A12_14 q.members.length c12_14] eq.1 (0, 0))], r6_14, r9_14, r11_14] : List Rowb), ∀ p ∈ u, Γ p.1 = some p.2 := fun u hu p hp => (fun p hp => (hqr p hp)) p (hrow_14 ▸ List.mem_flatten.2 ⟨u, hu, hp⟩)
  have hgc16 := hg_15 _ (List.mem_cons_self ..) (gq, _) (List.mem_singleton.2 rfl)
  have hgs17 := hg_15 r6_14 (by simp)
  have hgs18 := hg_15 r9_14 (by simp)
  have hgs19 := hg_15 r11_14 (by simp)
  refine vG0 (h:=fun hg13 => gF (v := ii q.c_sites) hgc16 rfl isAgg3 (grV hg13) rfl) (k:=vG0 (h:=fun hg20 => bB rfl (grV hg20) (grV hg20)) (k:=sV pkO (k:=mV (k:=vG0 (h:=fun hg21 => moV) (k:=vG0 (h:=fun hg22 => moV) (k:=vG0 (h:=fun hg23 => mF (c := cl) (hi := i2) (xs := l) underlying22 sizeOf3 rfl (grV hg23) (grV hg23) (Nat.le_of_lt hl7) hlc) (k:=vG0 (h:=fun hg24 => moV) (k:=?_))))))))
  obtain ⟨z26, hz27, h⟩ := bnd h
  refine vC0 (h:=fun hg25 => bl (aR call139 rfl rfl (fh (grV hg25) (grV hg25))) (fun w hw => dT (Γ := Gh.all w) ((hl.cut_to (hi := i2) (Nat.le_of_lt hl7)).mono hw.sat.le_all) (rE hlc i2) (gt l i2) (hl.intT_at hl7).1 (Sat.all w) (eQ hz27 hg25))) (k:=sV pkO (k:=WR.done ?_))
  refine ciV h (fun hb28 h => ?_) (fun hb28 h => ?_)
  ·
   refine WC.rs (aV (k:=WR.done ?_))
   exact WC.ret fun w hw => rq_ r h hF hw
  refine WC.skip (wc_ ?_)
  refine WC.region ?_
  refine sV (aC rfl rfl rfl (aP hl7 hl.le)) (k:=mV (k:=?_))
  refine WR.nil ?_
  intro w hw
  exact ⟨hl7, (), h, slK, hw, trivial⟩
 have h := hge5 (ige hb6)
 refine WC.exit ?_
 change WC _ _ _ _ _ _
 refine WC.rs (aV (k:=WR.done ?_))
 exact WC.ret fun w hw => rq_ r h hF hw
theorem tL {Aa2 : Option Addr} {ca2 : Nat} (a : Ver) (ha : Ver.fits Γ Aa2 ca2 a) {Ab2 : Option Addr} {cb2 : Nat} (b : Ver) (hb : Ver.fits Γ Ab2 cb2 b) (hs : Sat Γ w0) {r : Bool} (h : kL a b = some r) : CQ Tryz.prog 140 #[.agg (Ver.cs Aa2 ca2 a).toArray, .agg (Ver.cs Ab2 cb2 b).toArray] w0 (.bool r) := by
 refine goQ [4] func140 ntmps140 results140 hs fun F hF => ?_
 refine WC.rs ?_
 refine bxV (v := .agg (Ver.cs Aa2 ca2 a).toArray) fun g1 => ?_
 refine bxV (v := .agg (Ver.cs Ab2 cb2 b).toArray) fun g2 => ?_
 refine aV (k:=WR.done (WC.seq (WC.rs (sV (q_fl 0 cg) (k:=sV (ldaV 1 (Dot.cs a.dot) isAgg35 sizeOf35) (k:=sV (q_fl 0 cg) (k:=sV (ldaV 0 (Dot.cs b.dot) isAgg35 sizeOf35) (k:=?_))))))))
 refine sV (pR (a := a.dot) (b := b.dot) rfl rfl rfl) (k:=mV (k:=vG0 (h:=fun hg3 => q_fl 3 mI) (k:=vG0 (h:=fun hg4 => ldV 1 isAgg4 (hx:=grV hg4)) (k:=vG0 (h:=fun hg5 => q_fl 3 mI) (k:=vG0 (h:=fun hg6 => ldV 0 isAgg4 (hx:=grV hg6)) (k:=vG0 (h:=fun hg7 => B8 underlying4 rfl (grV hg7) (grV hg7)) (k:=sV pkO (k:=?_))))))))
 refine mV (k:=vG0 (h:=fun hg8 => q_fl 4 lk) (k:=vG0 (h:=fun hg9 => ldV 1 isAgg9 (hx:=grV hg9)) (k:=vG0 (h:=fun hg10 => q_fl 4 lk) (k:=vG0 (h:=fun hg11 => ldV 0 isAgg9 (hx:=grV hg11)) (k:=vG0 (h:=fun hg12 => Bo rfl (grV hg12) (grV hg12)) (k:=sV pkO (k:=mV (k:=?_))))))))
 refine vG0 (h:=fun hg13 => q_fl 2 fF) (k:=vG0 (h:=fun hg14 => ldV 1 isAgg33 (hx:=grV hg14)) (k:=vG0 (h:=fun hg15 => ab rfl underlying33 (grV hg15)) (k:=vG0 (h:=fun hg16 => q_fl 2 fF) (k:=vG0 (h:=fun hg17 => ldV 0 isAgg33 (hx:=grV hg17)) (k:=vG0 (h:=fun hg18 => ab rfl underlying33 (grV hg18)) (k:=vG0 (h:=fun hg19 => bZ rfl (grV hg19) (grV hg19)) (k:=sV pkO (k:=?_))))))))
 refine WR.done ?_
 refine ciV h (fun hb20 h => ?_) (fun hb20 h => ?_)
 ·
  refine WC.rs (aV (k:=WR.done ?_))
  exact WC.ret fun w hw => rq_ r h hF hw
 refine WC.skip (wc_ (WC.seq (WC.rs (sV (q_fl 2 fF) (k:=sV (ldV 1 isAgg33) (k:=sV (ab rfl underlying33) (k:=mV (k:=?_))))))))
 refine WR.done (WC.block ?_)
 refine WC.forI h (fun (i22 : Nat) (s : Unit) σ w => match s with | () => slots σ [(2, (pq g1)), (3, (pq g2)), (36, ii (a.past.length : Int)), (37, ii (i22 : Int))] ∧ CC F Γ [[(g2, .cells (Ver.cs Ab2 cb2 b).toArray 37 (0, 0))], [(g1, .cells (Ver.cs Aa2 ca2 a).toArray 37 (0, 0))]] w ∧ True) ?_ ?_
 ·
  intro w hw
  exact ⟨slK, hw, trivial⟩
 rintro f21 i22 ⟨⟩ σ w hi23 hlt24 hge25 ⟨hsl, hw, -⟩
 refine slV hsl hw [_, _] ?_; clear hw hsl
 refine WC.rs (sV aS (k:=WR.done (WC.seq ?_)))
 refine coV (fun hb26 => ?_) (fun hb26 => ?_)
 ·
  have hl27 := ilt hb26
  have h := hlt24 hl27
  refine WC.skip (wc_ (WC.seq (WC.block (WC.rs (mV (k:=aV (k:=WR.done ?_)))))))
  refine WC.seq ?_
  refine drV ?_
  refine zV (q_fl 2 fF) (k:=zV (ldV 1 isAgg33) (k:=zV moV (k:=zV (bb (i := i22) underlying33 sizeOf277 rfl rfl rfl hl27 (ha.2.2.1.2.some_ hl27)) (k:=zV (gY (c := 0) (vs := (Span.cs (gt a.past i22))) (ha.2.2.1.2.spanT_at hl27).2 rfl isAgg277 sizeOf277 rfl rfl rfl) (k:=zV (q_fl 2 fF) (k:=zV (ldV 0 isAgg33) (k:=zV moV (k:=?_))))))))
  obtain ⟨hk28, h⟩ := ai h
  refine zV (bb (i := i22) underlying33 sizeOf277 rfl rfl rfl (of_decide_eq_true hk28) (hb.2.2.1.2.some_ (of_decide_eq_true hk28))) (k:=zV (gY (c := 0) (vs := (Span.cs (gt b.past i22))) (hb.2.2.1.2.spanT_at (of_decide_eq_true hk28)).2 rfl isAgg277 sizeOf277 rfl rfl rfl) (k:=zV (vy (a := (gt a.past i22)) (b := (gt b.past i22)) rfl rfl rfl) (k:=?_)))
  refine WQ.nil ?_
  change WC _ _ _ _ _ _
  refine ciV h (fun hb29 h => ?_) (fun hb29 h => ?_)
  ·
   refine WC.rs (aV (k:=WR.done ?_))
   exact WC.ret fun w hw => rq_ r h hF hw
  refine WC.skip (wc_ ?_)
  refine WC.region ?_
  refine sV (aC rfl rfl rfl (aP hl27 ha.2.2.1.2.le)) (k:=mV (k:=?_))
  refine WR.nil ?_
  intro w hw
  exact ⟨hl27, (), h, slK, hw, trivial⟩
 have h := hge25 (ige hb26)
 refine WC.exit ?_
 change WC _ _ _ _ _ _
 refine WC.rs (aV (k:=WR.done ?_))
 exact WC.ret fun w hw => rq_ r h hF hw
theorem tI {Aa : Option Addr} {ca : Nat} {a : List Ver} (ha : Sl verT Γ Aa a) (hac : a.length ≤ ca) {Ab : Option Addr} {cb : Nat} {b : List Ver} (hb : Sl verT Γ Ab b) (hbc : b.length ≤ cb) (hs : Sat Γ w0) {r : Bool} (h : kJ a b = some r) : CQ Tryz.prog 77 #[.slice Aa a.length ca, .slice Ab b.length cb] w0 (.bool r) := by
 refine goQ [4] func77 ntmps77 results77 hs fun F hF => ?_
 refine WC.rs (aV (k:=WR.done (WC.seq (WC.rs (mV (k:=sV (ab rfl underlying40) (k:=mV (k:=?_))))))))
 refine sV (ab rfl underlying40) (k:=sV ug (k:=mV (k:=WR.done (WC.block ?_))))
 refine WC.forU h (fun (i2 : Nat) (s : Unit) σ w => match s with | () => slots σ [(0, .slice Aa a.length ca), (1, .slice Ab b.length cb), (10, ii (min (a.length : Int) (b.length : Int))), (11, ii (i2 : Int))] ∧ CC F Γ [] w ∧ True) ?_ ?_
 ·
  intro w hw
  exact ⟨slK, hw, trivial⟩
 rintro f1 i2 ⟨⟩ σ w hi3 hlt4 hge5 ⟨hsl, hw, -⟩
 refine slV hsl hw [] ?_; clear hw hsl
 refine WC.rs (sV aS (k:=WR.done (WC.seq ?_)))
 refine coV (fun hb6 => ?_) (fun hb6 => ?_)
 ·
  have hl7 := ilti hb6
  have h := hlt4 hl7
  refine WC.skip (wc_ (WC.seq (WC.block (WC.rs (mV (k:=aV (k:=WR.done ?_)))))))
  refine WC.seq ?_
  refine drV ?_
  refine zV moV (k:=zV moV (k:=?_))
  obtain ⟨hk8, h⟩ := ai h
  refine zV (bb (i := i2) underlying40 sizeOf37 rfl rfl rfl (of_decide_eq_true hk8) (ha.some_ (of_decide_eq_true hk8))) (k:=?_)
  obtain ⟨A9, c10, hx11⟩ := ha.verT_at i2
  refine zV (gY (c := 0) (vs := (Ver.cs A9 c10 (gt a i2))) (hx11 (of_decide_eq_true hk8)).2 rfl isAgg37 sizeOf37 rfl rfl rfl) (k:=zV moV (k:=zV moV (k:=?_)))
  obtain ⟨hk12, h⟩ := ai h
  refine zV (bb (i := i2) underlying40 sizeOf37 rfl rfl rfl (of_decide_eq_true hk12) (hb.some_ (of_decide_eq_true hk12))) (k:=?_)
  obtain ⟨A13, c14, hx15⟩ := hb.verT_at i2
  refine zV (gY (c := 0) (vs := (Ver.cs A13 c14 (gt b i2))) (hx15 (of_decide_eq_true hk12)).2 rfl isAgg37 sizeOf37 rfl rfl rfl) (k:=?_)
  obtain ⟨z16, hz17, h⟩ := bnd h
  refine wc rfl rfl rfl (bl (caV call140) (fun w hw => tL (Γ := Gh.all w) (gt a i2) (Ver.fits_mono (hx11 (of_decide_eq_true hk8)).1 hw.sat.le_all) (gt b i2) (Ver.fits_mono (hx15 (of_decide_eq_true hk12)).1 hw.sat.le_all) (Sat.all w) hz17)) (zV bu (k:=?_))
  refine WQ.nil ?_
  change WC _ _ _ _ _ _
  refine ciV h (fun hb18 h => ?_) (fun hb18 h => ?_)
  ·
   refine WC.rs (aV (k:=WR.done ?_))
   exact WC.ret fun w hw => rq_ r h hF hw
  refine WC.skip (wc_ ?_)
  refine WC.region ?_
  refine sV (aC rfl rfl rfl (k5 hl7 (AE (lX ha.le) (lX hb.le)))) (k:=mV (k:=?_))
  refine WR.nil ?_
  intro w hw
  exact ⟨hl7, (), h, slK, hw, trivial⟩
 have h := hge5 (igei hb6)
 refine WC.exit ?_
 change WC _ _ _ _ _ _
 refine WC.rs (mV (k:=sV (ab rfl underlying40) (k:=mV (k:=sV (ab rfl underlying40) (k:=sV bp (k:=aV (k:=WR.done ?_)))))))
 exact WC.ret fun w hw => rq_ r h hF hw
theorem gG {gq : Nat} {eq : Nat × Nat} {rowq : Rowb} {q : a6} (hq : a6.ob eq Γ gq rowq q) (hqr : ∀ p ∈ rowq, Γ p.1 = some p.2) {Ax_0 : Option Addr} {cx_0 : Nat} {Ax_2 : Option Addr} {cx_2 : Nat} (x_ : aj) (hx_ : aj.fits Γ Ax_0 cx_0 Ax_2 cx_2 x_) (hs : Sat Γ w0) {r : Bool} (h : bA q x_ = some r) : CQ Tryz.prog 34 #[(pq gq), .iface 101 (.agg (aj.cs Ax_0 cx_0 Ax_2 cx_2 x_).toArray)] w0 (.bool r) := by
 refine goQ [4] func34 ntmps34 results34 hs fun F hF => ?_
 refine WC.rs ?_
 refine bxV (v := (pq gq)) fun g1 => ?_
 refine aV (k:=WR.done (WC.seq (WC.rs (mU (v := .iface 101 (.agg (aj.cs Ax_0 cx_0 Ax_2 cx_2 x_).toArray)) (k:=WR.done (WC.block (WC.rs ?_)))))))
 refine sV (aH underlying98 zeroValue98 rfl rfl rfl) (k:=sV exV (k:=sV exV (k:=WR.done ?_)))
 refine WC.cfk (b := false) (by kernel_rfl) rfl ?_
 refine WC.rs (sV (dv underlying101 rfl rfl) (k:=sV exV (k:=sV exV (k:=WR.done ?_))))
 refine WC.ctk (b := true) (by kernel_rfl) rfl ?_
 refine WC.rs ?_
 refine alV zeroValue101 fun g2 => ?_
 refine stV 0 (.agg (aj.cs Ax_0 cx_0 Ax_2 cx_2 x_).toArray) (aj.cs Ax_0 cx_0 Ax_2 cx_2 x_).toArray sizeOf101 (k:=WR.done (WC.seq ?_))
 refine drV ?_
 refine zV (ldV 1 isAgg27) (k:=zV nlV (k:=zV (q_fl 10 oF) (k:=?_)))
 obtain ⟨A2_3, c2_3, A5_3, c5_3, g6_3, r6_3, A7_3, c7_3, A8_3, A9_3, c9_3, r9_3, m11_3, r11_3, A12_3, c12_3, hrow_3, ho0_3, ho1_3, ho2_3, ho3_3, ho4_3, ho5_3, ho6_3, ho7_3, ho8_3, ho9_3, ho10_3, ho11_3, ho12_3, ho13_3, ho14_3, ho15_3, ho16_3, -⟩ := id hq
 have hg_4 : ∀ u ∈ ([[(gq, .cells #[ii q.c_self, ii q.c_sites, .slice A2_3 q.c_links.length c2_3, ii q.c_cap, ii q.c_base, .slice A5_3 q.c_members.length c5_3, (pq g6_3), .slice A7_3 q.applied.length c7_3, .pointer A8_3, .slice A9_3 q.list.length c9_3, ii q.next, .map (some m11_3), .slice A12_3 q.members.length c12_3] eq.1 (0, 0))], r6_3, r9_3, r11_3] : List Rowb), ∀ p ∈ u, Γ p.1 = some p.2 := fun u hu p hp => (fun p hp => (hqr p hp)) p (hrow_3 ▸ List.mem_flatten.2 ⟨u, hu, hp⟩)
 have hgc5 := hg_4 _ (List.mem_cons_self ..) (gq, _) (List.mem_singleton.2 rfl)
 have hgs6 := hg_4 r6_3 (by simp)
 have hgs7 := hg_4 r9_3 (by simp)
 have hgs8 := hg_4 r11_3 (by simp)
 refine zV (gF (v := ii q.next) hgc5 rfl isAgg2 rfl rfl) (k:=zV gm (k:=zV moV (k:=wG1 (h:=fun hg9 => ldV 1 isAgg27) (k:=wG1 (h:=fun hg10 => q_fl 1 jf) (k:=wG1 (h:=fun hg11 => ldaV 0 (Rec.cs Ax_2 cx_2 x_.r) isAgg42 sizeOf42 (hx:=grV hg11)) (k:=?_))))))
 obtain ⟨z13, hz14, h⟩ := bnd h
 refine wC1 (h:=fun hg12 => bl (aR call75 rfl rfl (fh (grV hg12) (grV hg12))) (fun w hw => jQ (Γ := Gh.all w) (hq.mono hw.sat.le_all) (fun p hp => hw.sat _ _ (hqr p hp)) x_.r (Rec.fits_mono ⟨hx_.2.1, ⟨hx_.2.2.1, hx_.2.2.2⟩⟩ hw.sat.le_all) (Sat.all w) (eQ hz14 hg12))) (k:=zV pkA (k:=zV moV (k:=wG1 (h:=fun hg15 => ldV 1 isAgg27) (k:=wG1 (h:=fun hg16 => q_fl 0 mO) (k:=wG1 (h:=fun hg17 => ldV 0 isAgg22 (hx:=grV hg17)) (k:=?_))))))
 obtain ⟨z19, hz20, h⟩ := bnd h
 refine wC1 (h:=fun hg18 => bl (aR call76 rfl rfl (fh (grV hg18) (grV hg18))) (fun w hw => n8 (Γ := Gh.all w) (hq.mono hw.sat.le_all) (fun p hp => hw.sat _ _ (hqr p hp)) (hx_.1.2.mono hw.sat.le_all) hx_.1.1 (Sat.all w) (eQ hz20 hg18))) (k:=zV pkA (k:=zV moV (k:=wG1 (h:=fun hg21 => q_fl 1 jf) (k:=wG1 (h:=fun hg22 => q_fl 2 df rfl (grV hg22)) (k:=wG1 (h:=fun hg23 => ldV 0 isAgg40 (hx:=grV hg23)) (k:=?_))))))
 obtain ⟨hk25, h⟩ := ai h
 refine wG1 (h:=fun hg24 => bb (i := 0) underlying40 sizeOf37 rfl (grV hg24) rfl (of_decide_eq_true (bg hk25 hg24)) (hx_.2.2.2.some_ (of_decide_eq_true (bg hk25 hg24)))) (k:=wG1 (h:=fun hg26 => b6 (0 * 5) cg rfl (grV hg26) (hx_.2.2.2.some_ (of_decide_eq_true (bg hk25 hg26))) rfl) (k:=wG1 (h:=fun hg27 => b6 (0 * 5) cP rfl (grV hg27) (hx_.2.2.2.some_ (of_decide_eq_true (bg hk25 hg27))) rfl) (k:=?_)))
 obtain ⟨A29, c30, hx31⟩ := hx_.2.2.2.verT_at 0
 refine wG1 (h:=fun hg28 => q_ld (c := 0) (v := ii (gt x_.r.vers 0).dot.s) (hx31 (of_decide_eq_true (bg hk25 hg28))).2 rfl isAgg3 (grV hg28) rfl) (k:=wG1 (h:=fun hg32 => ldV 1 isAgg27) (k:=wG1 (h:=fun hg33 => nlV (hv:=grV hg33)) (k:=wG1 (h:=fun hg34 => q_fl 0 iL rfl (grV hg34)) (k:=wG1 (h:=fun hg35 => q_fl 0 iJ rfl (grV hg35)) (k:=wG1 (h:=fun hg36 => gF (v := ii q.c_self) hgc5 rfl isAgg3 (grV hg36) rfl) (k:=wG1 (h:=fun hg37 => bZ rfl (grV hg37) (grV hg37)) (k:=wG1 (h:=fun hg38 => ay (v := .bool ((gt x_.r.vers 0).dot.s != q.c_self)) rfl (grV hg38)) (k:=?_))))))))
 refine wh0 (c0 := (((decide (q.next ≤ 4611686018427387904)) && z13) && z19)) (g := ((gt x_.r.vers 0).dot.s != q.c_self)) rfl rfl rfl rfl rfl (fun _ => QV.qo (ldV 1 isAgg27)) (wh0 (c0 := (((decide (q.next ≤ 4611686018427387904)) && z13) && z19)) (g := ((gt x_.r.vers 0).dot.s != q.c_self)) rfl rfl rfl rfl rfl (fun hg40 => QV.qo (nlV (hv:=grV hg40))) (wh0 (c0 := (((decide (q.next ≤ 4611686018427387904)) && z13) && z19)) (g := ((gt x_.r.vers 0).dot.s != q.c_self)) rfl rfl rfl rfl rfl (fun hg41 => QV.qo (q_fl 8 iM rfl (grV hg41))) (wh0 (c0 := (((decide (q.next ≤ 4611686018427387904)) && z13) && z19)) (g := ((gt x_.r.vers 0).dot.s != q.c_self)) rfl rfl rfl rfl rfl (fun hg42 => QV.qo (gF (v := .pointer A8_3) hgc5 rfl isAgg81 (grV hg42) rfl)) (wh0 (c0 := (((decide (q.next ≤ 4611686018427387904)) && z13) && z19)) (g := ((gt x_.r.vers 0).dot.s != q.c_self)) rfl rfl rfl rfl rfl (fun hg43 => QV.qo (un ho11_3 underlying81 rfl (grV hg43) rfl)) (wh0 (c0 := (((decide (q.next ≤ 4611686018427387904)) && z13) && z19)) (g := ((gt x_.r.vers 0).dot.s != q.c_self)) rfl rfl rfl rfl rfl (fun hg44 => QV.qo (ay (v := .bool (!(Option.isNone q.under))) rfl (grV hg44))) (wh1 (c0 := ((((decide (q.next ≤ 4611686018427387904)) && z13) && z19) && (!((gt x_.r.vers 0).dot.s != q.c_self)))) (g := (!(Option.isNone q.under))) rfl rfl rfl rfl rfl (fun _ => QV.qo (ldV 1 isAgg27)) ?_))))))
 refine wh1 (c0 := ((((decide (q.next ≤ 4611686018427387904)) && z13) && z19) && (!((gt x_.r.vers 0).dot.s != q.c_self)))) (g := (!(Option.isNone q.under))) rfl rfl rfl rfl rfl (fun hg46 => QV.qo (nlV (hv:=grV hg46))) (wh1 (c0 := ((((decide (q.next ≤ 4611686018427387904)) && z13) && z19) && (!((gt x_.r.vers 0).dot.s != q.c_self)))) (g := (!(Option.isNone q.under))) rfl rfl rfl rfl rfl (fun hg47 => QV.qo (q_fl 8 iM rfl (grV hg47))) (wh1 (c0 := ((((decide (q.next ≤ 4611686018427387904)) && z13) && z19) && (!((gt x_.r.vers 0).dot.s != q.c_self)))) (g := (!(Option.isNone q.under))) rfl rfl rfl rfl rfl (fun hg48 => QV.qo (gF (v := .pointer A8_3) hgc5 rfl isAgg81 (grV hg48) rfl)) ?_))
 obtain ⟨hk50, h⟩ := ai h
 refine wh1 (c0 := ((((decide (q.next ≤ 4611686018427387904)) && z13) && z19) && (!((gt x_.r.vers 0).dot.s != q.c_self)))) (g := (!(Option.isNone q.under))) rfl rfl rfl rfl rfl (fun hg49 => QV.qo (qY ho11_3 (bg hk50 hg49) rfl (grV hg49))) (wh1 (c0 := ((((decide (q.next ≤ 4611686018427387904)) && z13) && z19) && (!((gt x_.r.vers 0).dot.s != q.c_self)))) (g := (!(Option.isNone q.under))) rfl rfl rfl rfl rfl (fun hg51 => QV.qo (b6 (A := A8_3) (j := 0) (0) mh rfl (grV hg51) ((Pd.sl ho11_3 (bg hk50 hg51)).some_ Nat.zero_lt_one) rfl)) ?_)
 obtain ⟨A53, c54, hx55⟩ := we (fun hs_ => (Pd.sl ho11_3 hs_).recT_at 0)
 refine wh1 (c0 := ((((decide (q.next ≤ 4611686018427387904)) && z13) && z19) && (!((gt x_.r.vers 0).dot.s != q.c_self)))) (g := (!(Option.isNone q.under))) rfl rfl rfl rfl rfl (fun hg52 => QV.qo (q_ld (c := 0) (v := .string (gt [gvo q.under] 0).key) (hx55 (bg hk50 hg52) Nat.zero_lt_one).2 rfl isAgg9 (grV hg52) rfl)) (wh1 (c0 := ((((decide (q.next ≤ 4611686018427387904)) && z13) && z19) && (!((gt x_.r.vers 0).dot.s != q.c_self)))) (g := (!(Option.isNone q.under))) rfl rfl rfl rfl rfl (fun _ => QV.qo (q_fl 1 jf)) (wh1 (c0 := ((((decide (q.next ≤ 4611686018427387904)) && z13) && z19) && (!((gt x_.r.vers 0).dot.s != q.c_self)))) (g := (!(Option.isNone q.under))) rfl rfl rfl rfl rfl (fun hg57 => QV.qo (q_fl 1 mh rfl (grV hg57))) (wh1 (c0 := ((((decide (q.next ≤ 4611686018427387904)) && z13) && z19) && (!((gt x_.r.vers 0).dot.s != q.c_self)))) (g := (!(Option.isNone q.under))) rfl rfl rfl rfl rfl (fun hg58 => QV.qo (ldV 0 isAgg9 (hx:=grV hg58))) (wh1 (c0 := ((((decide (q.next ≤ 4611686018427387904)) && z13) && z19) && (!((gt x_.r.vers 0).dot.s != q.c_self)))) (g := (!(Option.isNone q.under))) rfl rfl rfl rfl rfl (fun hg59 => QV.qo (rC rfl (grV hg59) (grV hg59))) ?_))))
 refine wh0 (c0 := (((decide (q.next ≤ 4611686018427387904)) && z13) && z19)) (g := ((gt x_.r.vers 0).dot.s != q.c_self)) rfl rfl rfl rfl rfl (fun hg60 => QV.qo (fU rfl (grV hg60) (kX (c := ((((decide (q.next ≤ 4611686018427387904)) && z13) && z19) && (!((gt x_.r.vers 0).dot.s != q.c_self)))) (g := (!(Option.isNone q.under))) (y := ((gt [gvo q.under] 0).key == x_.r.key)) hg60))) (wh0 (c0 := (((decide (q.next ≤ 4611686018427387904)) && z13) && z19)) (g := ((gt x_.r.vers 0).dot.s != q.c_self)) rfl rfl rfl rfl rfl (fun hg61 => QV.qo (ay (v := .bool ((!(Option.isNone q.under)) && ((gt [gvo q.under] 0).key == x_.r.key))) rfl (grV hg61))) (wh1 (c0 := ((((decide (q.next ≤ 4611686018427387904)) && z13) && z19) && (!((gt x_.r.vers 0).dot.s != q.c_self)))) (g := ((!(Option.isNone q.under)) && ((gt [gvo q.under] 0).key == x_.r.key))) rfl rfl rfl rfl rfl (fun _ => QV.qo (ldV 1 isAgg27)) (wh1 (c0 := ((((decide (q.next ≤ 4611686018427387904)) && z13) && z19) && (!((gt x_.r.vers 0).dot.s != q.c_self)))) (g := ((!(Option.isNone q.under)) && ((gt [gvo q.under] 0).key == x_.r.key))) rfl rfl rfl rfl rfl (fun hg63 => QV.qo (nlV (hv:=grV hg63))) ?_)))
 refine wh1 (c0 := ((((decide (q.next ≤ 4611686018427387904)) && z13) && z19) && (!((gt x_.r.vers 0).dot.s != q.c_self)))) (g := ((!(Option.isNone q.under)) && ((gt [gvo q.under] 0).key == x_.r.key))) rfl rfl rfl rfl rfl (fun hg64 => QV.qo (q_fl 8 iM rfl (grV hg64))) (wh1 (c0 := ((((decide (q.next ≤ 4611686018427387904)) && z13) && z19) && (!((gt x_.r.vers 0).dot.s != q.c_self)))) (g := ((!(Option.isNone q.under)) && ((gt [gvo q.under] 0).key == x_.r.key))) rfl rfl rfl rfl rfl (fun hg65 => QV.qo (gF (v := .pointer A8_3) hgc5 rfl isAgg81 (grV hg65) rfl)) ?_)
 obtain ⟨hk67, h⟩ := ai h
 refine wh1 (c0 := ((((decide (q.next ≤ 4611686018427387904)) && z13) && z19) && (!((gt x_.r.vers 0).dot.s != q.c_self)))) (g := ((!(Option.isNone q.under)) && ((gt [gvo q.under] 0).key == x_.r.key))) rfl rfl rfl rfl rfl (fun hg66 => QV.qo (qY ho11_3 (bg hk67 hg66) rfl (grV hg66))) (wh1 (c0 := ((((decide (q.next ≤ 4611686018427387904)) && z13) && z19) && (!((gt x_.r.vers 0).dot.s != q.c_self)))) (g := ((!(Option.isNone q.under)) && ((gt [gvo q.under] 0).key == x_.r.key))) rfl rfl rfl rfl rfl (fun hg68 => QV.qo (b6 (0 + 1) df rfl (grV hg68) ((Pd.sl ho11_3 (bg hk67 hg68)).some_ Nat.zero_lt_one) rfl)) ?_)
 obtain ⟨A70, c71, hx72⟩ := we (fun hs_ => (Pd.sl ho11_3 hs_).recT_at 0)
 refine wh1 (c0 := ((((decide (q.next ≤ 4611686018427387904)) && z13) && z19) && (!((gt x_.r.vers 0).dot.s != q.c_self)))) (g := ((!(Option.isNone q.under)) && ((gt [gvo q.under] 0).key == x_.r.key))) rfl rfl rfl rfl rfl (fun hg69 => QV.qo (q_ld (c := 1) (v := .slice A70 ((gt [gvo q.under] 0).vers).length c71) (hx72 (bg hk67 hg69) Nat.zero_lt_one).2 rfl isAgg40 (grV hg69) rfl)) (wh1 (c0 := ((((decide (q.next ≤ 4611686018427387904)) && z13) && z19) && (!((gt x_.r.vers 0).dot.s != q.c_self)))) (g := ((!(Option.isNone q.under)) && ((gt [gvo q.under] 0).key == x_.r.key))) rfl rfl rfl rfl rfl (fun _ => QV.qo (q_fl 1 jf)) (wh1 (c0 := ((((decide (q.next ≤ 4611686018427387904)) && z13) && z19) && (!((gt x_.r.vers 0).dot.s != q.c_self)))) (g := ((!(Option.isNone q.under)) && ((gt [gvo q.under] 0).key == x_.r.key))) rfl rfl rfl rfl rfl (fun hg74 => QV.qo (q_fl 2 df rfl (grV hg74))) (wh1 (c0 := ((((decide (q.next ≤ 4611686018427387904)) && z13) && z19) && (!((gt x_.r.vers 0).dot.s != q.c_self)))) (g := ((!(Option.isNone q.under)) && ((gt [gvo q.under] 0).key == x_.r.key))) rfl rfl rfl rfl rfl (fun hg75 => QV.qo (ldV 0 isAgg40 (hx:=grV hg75))) ?_)))
 obtain ⟨z77, hz78, h⟩ := bnd h
 refine wh1 (c0 := ((((decide (q.next ≤ 4611686018427387904)) && z13) && z19) && (!((gt x_.r.vers 0).dot.s != q.c_self)))) (g := ((!(Option.isNone q.under)) && ((gt [gvo q.under] 0).key == x_.r.key))) rfl rfl rfl rfl rfl (fun hg76 => (bl (aR call77 rfl rfl (fh (grV hg76) (grV hg76))) (fun w hw => tI (Γ := Gh.all w) ((hx72 (bg hk67 hg76) Nat.zero_lt_one).1.2.2.mono hw.sat.le_all) (hx72 (bg hk67 hg76) Nat.zero_lt_one).1.2.1 (hx_.2.2.2.mono hw.sat.le_all) hx_.2.2.1 (Sat.all w) (eQ hz78 hg76)))) (wh0 (c0 := (((decide (q.next ≤ 4611686018427387904)) && z13) && z19)) (g := ((gt x_.r.vers 0).dot.s != q.c_self)) rfl rfl rfl rfl rfl (fun hg79 => QV.qo (fU rfl (grV hg79) (kX (c := ((((decide (q.next ≤ 4611686018427387904)) && z13) && z19) && (!((gt x_.r.vers 0).dot.s != q.c_self)))) (g := ((!(Option.isNone q.under)) && ((gt [gvo q.under] 0).key == x_.r.key))) (y := z77) hg79))) (wG1 (h:=fun hg80 => fU rfl (grV hg80) (Ar (c := (((decide (q.next ≤ 4611686018427387904)) && z13) && z19)) (g := ((gt x_.r.vers 0).dot.s != q.c_self)) (y := (((!(Option.isNone q.under)) && ((gt [gvo q.under] 0).key == x_.r.key)) && z77)) hg80)) (k:=zV pkA (k:=zV aoV (k:=?_)))))
 refine WQ.nil ?_
 change WC _ _ _ _ _ _
 exact WC.ret fun w hw => rq_ r h hF hw
abbrev um (r : (List Int) × Int) (U : List Rowb) (Γ : Gh) (v : Value) : Prop := ∃ (A0 : Option Addr), ∃ (c0 : Nat), ∃ (row0 : Rowb), v = .tuple #[.slice A0 r.1.length c0, .int .i64 r.2] ∧ U = [row0] ∧ Own intT Γ 2 row0 A0 c0 r.1 ∧ I64 r.2 ∧ True
theorem uj {Av_ : Option Addr} {cv_ : Nat} {v_ : List Int} (hv_ : Sl intT Γ Av_ v_) (hv_c : v_.length ≤ cv_) (d : Dot) (hd : Dot.fits Γ  d) (hp : Pre [] Γ w0) {r : (List Int) × Int} (h : jJ v_ d = some r) : Calls Tryz.prog 143 #[.slice Av_ v_.length cv_, .agg (Dot.cs d).toArray] w0 (Outc Γ [] w0 (um r)) := by
 refine goV [4, 5] func143 ntmps143 results143 hp fun F hF => ?_
 refine WC.rs ?_
 refine bxV (v := .agg (Dot.cs d).toArray) fun g1 => ?_
 refine aV (k:=aV (k:=WR.done (WC.rs (mV (k:=sV (q_fl 0 cP) (k:=sV (ldV 0 isAgg3) (k:=?_)))))))
 obtain ⟨z2, hz3, h⟩ := bnd h
 refine vqV (caV call36) (fun w hw => jz (Γ := Gh.all w) (hv_.mono hw.sat.le_all) hv_c d.s hd.1 (Sat.all w) hz3) (k:=mV (k:=sV exV (k:=sV exV (k:=?_))))
 refine alV zeroValue35 fun g4 => ?_
 refine stV 0 (.agg (Dot.cs z2.1).toArray) (Dot.cs z2.1).toArray sizeOf35 (k:=aV (k:=WR.done (WC.seq (WC.rs (mV (k:=sV bZ (k:=mV (k:=?_))))))))
 refine vG0 (h:=fun hg5 => ldaV 0 (Dot.cs z2.1) isAgg35 sizeOf35) (k:=vG0 (h:=fun hg6 => ldaV 1 (Dot.cs d) isAgg35 sizeOf35) (k:=vG0 (h:=fun hg7 => pR (a := z2.1) (b := d) rfl (grV hg7) (grV hg7)) (k:=sV pkO (k:=WR.done ?_))))
 refine ciV h (fun hb8 h => ?_) (fun hb8 h => ?_)
 ·
  refine WC.rs (aV (k:=aV (k:=WR.done ?_)))
  refine WC.ret ?_
  intro w hw
  have hw := hw.pad
  exact re_ r [0] h hF hw ⟨none, 0, [], rfl, rfl, (Own.nil intT _ 2), iV, trivial⟩
 refine WC.skip (wc_ (WC.rs ?_))
 refine bsV #[] 2 fun g9 => ?_
 refine mV (k:=?_)
 have ho10 : Own intT Γ 2 [(g9, .cells #[] 2 (0, 0))] (some ⟨g9, 0, none⟩) 0 ([] : List Int) := Own.of_blockL (T := intT) (ys := ([] : List Int)) [] rfl (show 0 ≤ lim by decide) (show True from trivial)
 obtain ⟨hk11, h⟩ := ai h
 refine apV 0 v_ mX ho10 (of_decide_eq_true hk11) (fun w hw => mv hv_ hw) ?_
 intro row12 A13 c14 ho15
 refine aV (k:=WR.done (WC.rs (mV (k:=sV (q_fl 0 cP) (k:=sV (ldV 2 isAgg3) (k:=sV hQ (k:=sV (q_fl 1 fD) (k:=?_))))))))
 refine sV (ldV 2 isAgg2) (k:=?_)
 obtain ⟨hk16, h⟩ := ai h
 refine sV (q_ix underlying46 sizeOf2 rfl rfl rfl hk16 (ho15.some_ (bG hk16))) (k:=?_)
 refine ma (T := intT) (q := (w64 (d.s - 1)).toNat) (v := ii d.n) (y := d.n) rfl rfl rfl rfl (by kernel_rfl) sizeOf2 (by exact ⟨rfl, hd.2⟩) (i := 0) rfl ho15 (bG hk16) ?_
 intro row17 ho18
 refine WR.done (WC.rs (mV (k:=aV (k:=aV (k:=WR.done ?_)))))
 refine WC.ret ?_
 rw [show Value.slice A13 ((([] : List Int) ++ v_).length) c14 = Value.slice A13 ((List.set (([] : List Int) ++ v_) ((w64 (d.s - 1)).toNat) d.n).length) c14 from by first | (rw [List.length_set]; done) | (rw [List.length_set]; rfl)]
 intro w hw
 obtain rfl := Option.some.inj h
 subst hF
 exact aO (is := [0]) (by kernel_rfl) hw rfl ⟨A13, c14, row17, rfl, rfl, ho18, iV, trivial⟩
abbrev nZ (gq : Nat) (eq : Nat × Nat) (r : a6) (U : List Rowb) (Γ : Gh) (v : Value) : Prop := ∃ (rowq' : Rowb), v = .tuple #[] ∧ U = [rowq'] ∧ a6.ob eq Γ gq rowq' r ∧ True
theorem oU {gq : Nat} {eq : Nat × Nat} {rowq : Rowb} {q : a6} (hq : a6.ob eq Γ gq rowq q) (seq : Int) (hseq : I64 seq) {Ar_1 : Option Addr} {cr_1 : Nat} (r_ : Rec) (hr_ : Rec.fits Γ Ar_1 cr_1 r_) {Aroute : Option Addr} {croute : Nat} {route : List Int} (hroute : Sl intT Γ Aroute route) (hroutec : route.length ≤ croute) {Asinks : Option Addr} {csinks : Nat} {sinks : List Int} (hsinks : Sl intT Γ Asinks sinks) (hsinksc : sinks.length ≤ csinks) (hp : Pre [rowq] Γ w0) {r : a6} (h : ej q seq r_ route sinks = some r) : Calls Tryz.prog 88 #[(pq gq), ii seq, .agg (Rec.cs Ar_1 cr_1 r_).toArray, .slice Aroute route.length croute, .slice Asinks sinks.length csinks] w0 (Outc Γ [rowq] w0 (nZ gq eq r)) := by
 refine goV [] func88 ntmps88 results88 hp fun F hF => ?_
 refine WC.rs ?_
 refine bxV (v := .agg (Rec.cs Ar_1 cr_1 r_).toArray) fun g1 => ?_
 refine WR.done (WC.rs (mV (k:=sV (ldaV 0 (Rec.cs Ar_1 cr_1 r_) isAgg42 sizeOf42) (k:=mV (k:=sV (aZ (v := .agg #[ii seq, .string r_.key, .slice Ar_1 r_.vers.length cr_1, .slice Aroute route.length croute]) rfl (rH rfl rfl rfl) (fun w => by kernel_rfl)) (k:=?_))))))
 refine lq (intK underlying3) iW.v rfl rfl rfl rfl ?_
 intro g2 row3 hm4
 refine sV (aZ (v := .agg #[ii seq, .string r_.key, .slice Ar_1 r_.vers.length cr_1, .slice Aroute route.length croute, .map (some g2)]) rfl (iE rfl rfl) (fun w => by kernel_rfl)) (k:=?_)
 refine alV zeroValue104 fun g5 => ?_
 refine stV 0 (.agg #[ii seq, .string r_.key, .slice Ar_1 r_.vers.length cr_1, .slice Aroute route.length croute, .map (some g2)]) #[ii seq, .string r_.key, .slice Ar_1 r_.vers.length cr_1, .slice Aroute route.length croute, .map (some g2)] sizeOf104 (k:=WR.done (WC.seq (WC.rs (mV (k:=sV (ab rfl underlying22) (k:=mV (k:=WR.done ?_)))))))
 refine WC.block ?_
 refine WC.forI h (fun (i10 : Nat) (m6 : List (Int × Bool)) σ w => ∃ (row7 : Rowb), slots σ [(0, (pq gq)), (4, .slice Asinks sinks.length csinks), (10, (pq g5)), (19, .slice Asinks sinks.length csinks), (20, ii (sinks.length : Int)), (21, ii (i10 : Int))] ∧ CC F Γ [[(g5, .cells #[ii seq, .string r_.key, .slice Ar_1 r_.vers.length cr_1, .slice Aroute route.length croute, .map (some g2)] 104 (0, 0))], row7, rowq] w ∧ MapO (intK underlying3) iW.v Γ row7 g2 m6 ∧ True) ?_ ?_
 ·
  intro w hw
  exact ⟨row3, slK, (hw.on [0, 0, 1]), hm4, trivial⟩
 rintro f9 i10 m6 σ w hi11 hlt12 hge13 ⟨row7, hsl, hw, ho8, -⟩
 refine slV hsl hw [_, _, _] ?_; clear hw hsl
 refine WC.rs (sV aS (k:=WR.done (WC.seq ?_)))
 refine coV (fun hb14 => ?_) (fun hb14 => ?_)
 ·
  have hl15 := ilt hb14
  have h := hlt12 hl15
  refine WC.skip (wc_ (WC.seq (WC.block (WC.rs (sV (bb (i := i10) underlying22 sizeOf3 rfl rfl rfl hl15 (hsinks.some_ hl15)) (k:=sV (q_ld (c := 0) (v := ii (gt sinks i10)) (hsinks.intT_at hl15).2 rfl isAgg3 rfl rfl) (k:=aV (k:=?_))))))))
  refine WR.done ?_
  refine WC.region ?_
  refine sV (q_fl 4 k9) (k:=sV (ldV 0 isAgg80) (k:=mV (k:=?_)))
  refine kM (i := 1) (x := (gt sinks i10)) (v := .bool true) (a := true) rfl rfl rfl underlying80 rfl rfl (by kernel_rfl) rfl ho8 (by exact rfl) (hsinks.intT_at hl15).1 ?_
  intro row16 hm17
  refine WR.nil ?_
  change WC _ _ _ _ _ _
  refine WC.region ?_
  refine sV (aC rfl rfl rfl (aP hl15 hsinks.le)) (k:=mV (k:=?_))
  refine WR.nil ?_
  intro w hw
  exact ⟨hl15, (mput (gt sinks i10) true m6), h, row16, slK, hw, hm17, trivial⟩
 have h := hge13 (ige hb14)
 refine WC.exit ?_
 change WC _ _ _ _ _ _
 refine WC.rs (mV (k:=sV (ab rfl underlying22) (k:=sV bB (k:=WR.done ?_))))
 refine ciV h (fun hb18 h => ?_) (fun hb18 h => ?_)
 ·
  refine leV fun h019 => ?_
  refine eD (CC F Γ [[(g5, .cells #[ii seq, .string r_.key, .slice Ar_1 r_.vers.length cr_1, .slice Aroute route.length croute, .map (some g2)] 104 (0, 0))]]) (bo_ [0] gR h019) fun k => ?_
  change WH _ _ _ _ (CC F Γ [_, _, _]) _ 11 _ _
  refine hV 0 k (q:=moV) (k:=hV 1 k (q:=moV) (k:=hV 2 k (q:=nlV) (k:=hV 3 k (q:=q_fl 9 dD) (k:=hV 5 k (q:=ldaV 0 [ii seq, .string r_.key, .slice Ar_1 r_.vers.length cr_1, .slice Aroute route.length croute, .map (some g2)] isAgg104 sizeOf104) (k:=?_)))))
  refine WH.each (l := [4, 6]) (by kernel_rfl) (by simp) ?_
  intro i hi; simp only [List.mem_cons, List.not_mem_nil, or_false] at hi
  rcases hi with rfl | rfl
  ·
   refine ⟨_, rfl, ?_⟩
   obtain ⟨A2_20, c2_20, A5_20, c5_20, g6_20, r6_20, A7_20, c7_20, A8_20, A9_20, c9_20, r9_20, m11_20, r11_20, A12_20, c12_20, hrow_20, ho0_20, ho1_20, ho2_20, ho3_20, ho4_20, ho5_20, ho6_20, ho7_20, ho8_20, ho9_20, ho10_20, ho11_20, ho12_20, ho13_20, ho14_20, ho15_20, ho16_20, -⟩ := id hq
   refine ufR 2 hrow_20 [_, _, _, _, _, _] ?_
   refine sV (ldV 0 isAgg82) (k:=?_)
   refine WR.nil (nxV (bo_ [4] gR h019) fun k => ?_)
   refine wl_ 6 rfl ?_
   refine bsV #[ii seq, .string r_.key, .slice Ar_1 r_.vers.length cr_1, .slice Aroute route.length croute, .map (some g2)] 104 fun g21 => ?_
   refine WR.nil (nxV (bo_ [5] gR h019) fun k => ?_)
   refine wl_ 7 rfl ?_
   obtain ⟨hk22, h⟩ := ai h
   refine rp (E := aK) (T := ba) (K := (intK underlying3)) (V := iW.v) (i := 3) (j := 6) (m := (⟨(⟨seq, (⟨r_.key, r_.vers⟩ : Rec), route⟩ : aq), m6⟩ : az)) (g := g2) (xs := q.list) wu rfl rfl rfl rfl rfl rfl rfl (by decide) rfl ho12_20 ho8 (of_decide_eq_true hk22) (fun w hw => dR (i := 0) rfl (by exact ⟨Ar_1, cr_1, Aroute, croute, rfl, ⟨hseq, hr_.1, ⟨hr_.2.1, hr_.2.2⟩, ⟨hroutec, hroute⟩⟩⟩) hw) ?_
   intro row23 A24 c25 hm26
   change WR _ _ _ (CC F Γ [_, _, _, _, _, _]) _ _ _
   refine WR.nil (nxV (bo_ [5] gR h019) fun k => ?_)
   refine hV 8 k (q:=nlV) (k:=hV 9 k (q:=q_fl 9 dD) (k:=wl_ 10 rfl (stV 2 (.slice A24 ((q.list ++ [(⟨(⟨seq, (⟨r_.key, r_.vers⟩ : Rec), route⟩ : aq), m6⟩ : az)]).length) c25) #[ii q.c_self, ii q.c_sites, .slice A2_20 q.c_links.length c2_20, ii q.c_cap, ii q.c_base, .slice A5_20 q.c_members.length c5_20, (pq g6_20), .slice A7_20 q.applied.length c7_20, .pointer A8_20, .slice A24 ((q.list ++ [(⟨(⟨seq, (⟨r_.key, r_.vers⟩ : Rec), route⟩ : aq), m6⟩ : az)]).length) c25, ii q.next, .map (some m11_20), .slice A12_20 q.members.length c12_20] sizeOf82 (k:=?_))))
   refine WR.nil (nxV (bo_ [5] gR h019) fun k => ?_)
   refine WH.done (by kernel_rfl) ?_
   intro w hw
   obtain ⟨row_27, hrow_27, hob_27⟩ : ∃ rw : Rowb, rw = ([[(gq, .cells #[ii q.c_self, ii q.c_sites, .slice A2_20 q.c_links.length c2_20, ii q.c_cap, ii q.c_base, .slice A5_20 q.c_members.length c5_20, (pq g6_20), .slice A7_20 q.applied.length c7_20, .pointer A8_20, .slice A24 ((q.list ++ [(⟨(⟨seq, (⟨r_.key, r_.vers⟩ : Rec), route⟩ : aq), m6⟩ : az)]).length) c25, ii q.next, .map (some m11_20), .slice A12_20 q.members.length c12_20] eq.1 (0, 0))], r6_20, row23, r11_20] : List Rowb).flatten ∧ a6.ob eq Γ gq rw (⟨q.c_self, q.c_sites, q.c_links, q.c_cap, q.c_base, q.c_members, q.log, q.applied, q.under, (q.list ++ [(⟨(⟨seq, (⟨r_.key, r_.vers⟩ : Rec), route⟩ : aq), m6⟩ : az)]), q.next, q.gaps, q.members⟩ : a6) := ⟨_, rfl, A2_20, c2_20, A5_20, c5_20, g6_20, r6_20, A7_20, c7_20, A8_20, A24, c25, row23, m11_20, r11_20, A12_20, c12_20, rfl, ho0_20, ho1_20, ho2_20, ho3_20, ho4_20, ho5_20, ho6_20, ho7_20, ho8_20, ho9_20, ho10_20, ho11_20, hm26, ho13_20, ho14_20, ho15_20, ho16_20, trivial⟩
   have hw := hw.fold (is := [2, 2, 0, 1]) rfl hrow_27
   obtain rfl := Option.some.inj h
   subst hF
   exact aO (is := [0]) (by kernel_rfl) hw rfl ⟨row_27, rfl, rfl, hob_27, trivial⟩
  refine ⟨_, rfl, ?_⟩
  refine bsV #[ii seq, .string r_.key, .slice Ar_1 r_.vers.length cr_1, .slice Aroute route.length croute, .map (some g2)] 104 fun g20 => ?_
  refine WR.nil (nxV (bo_ [1] gR h019) fun k => ?_)
  refine wl_ 4 rfl ?_
  obtain ⟨A2_21, c2_21, A5_21, c5_21, g6_21, r6_21, A7_21, c7_21, A8_21, A9_21, c9_21, r9_21, m11_21, r11_21, A12_21, c12_21, hrow_21, ho0_21, ho1_21, ho2_21, ho3_21, ho4_21, ho5_21, ho6_21, ho7_21, ho8_21, ho9_21, ho10_21, ho11_21, ho12_21, ho13_21, ho14_21, ho15_21, ho16_21, -⟩ := id hq
  refine ufR 3 hrow_21 [_, _, _, _, _, _, _] ?_
  refine sV (ldV 0 isAgg82) (k:=?_)
  refine WR.nil (nxV (bo_ [5] gR h019) fun k => ?_)
  refine wl_ 7 rfl ?_
  obtain ⟨hk22, h⟩ := ai h
  refine rp (E := aK) (T := ba) (K := (intK underlying3)) (V := iW.v) (i := 2) (j := 6) (m := (⟨(⟨seq, (⟨r_.key, r_.vers⟩ : Rec), route⟩ : aq), m6⟩ : az)) (g := g2) (xs := q.list) wu rfl rfl rfl rfl rfl rfl rfl (by decide) rfl ho12_21 ho8 (of_decide_eq_true hk22) (fun w hw => dR (i := 4) rfl (by exact ⟨Ar_1, cr_1, Aroute, croute, rfl, ⟨hseq, hr_.1, ⟨hr_.2.1, hr_.2.2⟩, ⟨hroutec, hroute⟩⟩⟩) hw) ?_
  intro row23 A24 c25 hm26
  change WR _ _ _ (CC F Γ [_, _, _, _, _, _]) _ _ _
  refine WR.nil (nxV (bo_ [5] gR h019) fun k => ?_)
  refine hV 8 k (q:=nlV) (k:=hV 9 k (q:=q_fl 9 dD) (k:=wl_ 10 rfl (stV 1 (.slice A24 ((q.list ++ [(⟨(⟨seq, (⟨r_.key, r_.vers⟩ : Rec), route⟩ : aq), m6⟩ : az)]).length) c25) #[ii q.c_self, ii q.c_sites, .slice A2_21 q.c_links.length c2_21, ii q.c_cap, ii q.c_base, .slice A5_21 q.c_members.length c5_21, (pq g6_21), .slice A7_21 q.applied.length c7_21, .pointer A8_21, .slice A24 ((q.list ++ [(⟨(⟨seq, (⟨r_.key, r_.vers⟩ : Rec), route⟩ : aq), m6⟩ : az)]).length) c25, ii q.next, .map (some m11_21), .slice A12_21 q.members.length c12_21] sizeOf82 (k:=?_))))
  refine WR.nil (nxV (bo_ [5] gR h019) fun k => ?_)
  refine WH.done (by kernel_rfl) ?_
  intro w hw
  obtain ⟨row_27, hrow_27, hob_27⟩ : ∃ rw : Rowb, rw = ([[(gq, .cells #[ii q.c_self, ii q.c_sites, .slice A2_21 q.c_links.length c2_21, ii q.c_cap, ii q.c_base, .slice A5_21 q.c_members.length c5_21, (pq g6_21), .slice A7_21 q.applied.length c7_21, .pointer A8_21, .slice A24 ((q.list ++ [(⟨(⟨seq, (⟨r_.key, r_.vers⟩ : Rec), route⟩ : aq), m6⟩ : az)]).length) c25, ii q.next, .map (some m11_21), .slice A12_21 q.members.length c12_21] eq.1 (0, 0))], r6_21, row23, r11_21] : List Rowb).flatten ∧ a6.ob eq Γ gq rw (⟨q.c_self, q.c_sites, q.c_links, q.c_cap, q.c_base, q.c_members, q.log, q.applied, q.under, (q.list ++ [(⟨(⟨seq, (⟨r_.key, r_.vers⟩ : Rec), route⟩ : aq), m6⟩ : az)]), q.next, q.gaps, q.members⟩ : a6) := ⟨_, rfl, A2_21, c2_21, A5_21, c5_21, g6_21, r6_21, A7_21, c7_21, A8_21, A24, c25, row23, m11_21, r11_21, A12_21, c12_21, rfl, ho0_21, ho1_21, ho2_21, ho3_21, ho4_21, ho5_21, ho6_21, ho7_21, ho8_21, ho9_21, ho10_21, ho11_21, hm26, ho13_21, ho14_21, ho15_21, ho16_21, trivial⟩
  have hw := hw.fold (is := [1, 1, 0, 0]) rfl hrow_27
  obtain rfl := Option.some.inj h
  subst hF
  exact aO (is := [0]) (by kernel_rfl) hw rfl ⟨row_27, rfl, rfl, hob_27, trivial⟩
 refine WC.skip ?_
 intro w hw
 obtain rfl := Option.some.inj h
 subst hF
 exact aO (is := [2]) (by kernel_rfl) hw rfl ⟨rowq, rfl, rfl, hq, trivial⟩
abbrev oZ (gq : Nat) (eq : Nat × Nat) (r : a6) (U : List Rowb) (Γ : Gh) (v : Value) : Prop := ∃ (rowq' : Rowb), v = .tuple #[] ∧ U = [rowq'] ∧ a6.ob eq Γ gq rowq' r ∧ True
theorem ou {gq : Nat} {eq : Nat × Nat} {rowq : Rowb} {q : a6} (hq : a6.ob eq Γ gq rowq q) {Ax_0 : Option Addr} {cx_0 : Nat} {Ax_2 : Option Addr} {cx_2 : Nat} (x_ : aj) (hx_ : aj.fits Γ Ax_0 cx_0 Ax_2 cx_2 x_) (hp : Pre [rowq] Γ w0) {r : a6} (h : iH q x_ = some r) : Calls Tryz.prog 83 #[(pq gq), .agg (aj.cs Ax_0 cx_0 Ax_2 cx_2 x_).toArray] w0 (Outc Γ [rowq] w0 (oZ gq eq r)) := by
 refine goV [] func83 ntmps83 results83 hp fun F hF => ?_
 refine WC.rs ?_
 refine bxV (v := .agg (aj.cs Ax_0 cx_0 Ax_2 cx_2 x_).toArray) fun g1 => ?_
 refine WR.done (WC.rs (sV (q_fl 1 jf) (k:=sV (q_fl 2 df) (k:=sV (ldV 0 isAgg40) (k:=?_)))))
 obtain ⟨hk2, h⟩ := ai h
 refine sV (bb (i := 0) underlying40 sizeOf37 rfl rfl rfl (of_decide_eq_true hk2) (hx_.2.2.2.some_ (of_decide_eq_true hk2))) (k:=sV (b6 (0 * 5) cg rfl rfl (hx_.2.2.2.some_ (of_decide_eq_true hk2)) rfl) (k:=?_))
 obtain ⟨A3, c4, hx5⟩ := hx_.2.2.2.verT_at 0
 refine sV (gY (c := 0) (vs := [ii (gt x_.r.vers 0).dot.s, ii (gt x_.r.vers 0).dot.n]) (hx5 (of_decide_eq_true hk2)).2 rfl isAgg35 sizeOf35 rfl rfl rfl) (k:=?_)
 refine alV zeroValue35 fun g6 => ?_
 refine stV 0 (.agg #[ii (gt x_.r.vers 0).dot.s, ii (gt x_.r.vers 0).dot.n]) #[ii (gt x_.r.vers 0).dot.s, ii (gt x_.r.vers 0).dot.n] sizeOf35 (k:=WR.done (WC.seq ?_))
 refine leV fun h07 => ?_
 refine eD (CC F Γ [[(g6, .cells #[ii (gt x_.r.vers 0).dot.s, ii (gt x_.r.vers 0).dot.n] 35 (0, 0))], [(g1, .cells (aj.cs Ax_0 cx_0 Ax_2 cx_2 x_).toArray 101 (0, 0))]]) (bo_ [0, 0] gR h07) fun k => ?_
 change WH _ _ _ _ (CC F Γ [_, _, _]) _ 13 _ _
 refine hV 0 k (q:=moV) (k:=hV 1 k (q:=moV) (k:=hV 2 k (q:=nlV) (k:=hV 3 k (q:=q_fl 7 eR) (k:=hV 5 k (q:=ldaV 0 [ii (gt x_.r.vers 0).dot.s, ii (gt x_.r.vers 0).dot.n] isAgg35 sizeOf35) (k:=wl_ 4 rfl ?_)))))
 obtain ⟨A2_8, c2_8, A5_8, c5_8, g6_8, r6_8, A7_8, c7_8, A8_8, A9_8, c9_8, r9_8, m11_8, r11_8, A12_8, c12_8, hrow_8, ho0_8, ho1_8, ho2_8, ho3_8, ho4_8, ho5_8, ho6_8, ho7_8, ho8_8, ho9_8, ho10_8, ho11_8, ho12_8, ho13_8, ho14_8, ho15_8, ho16_8, -⟩ := id hq
 refine ufR 2 hrow_8 [_, _, _, _, _, _] ?_
 refine sV (ldV 0 isAgg46) (k:=?_)
 refine WR.nil (nxV (bo_ [4, 4] gR h07) fun k => ?_)
 refine wl_ 6 rfl ?_
 obtain ⟨z9, hz10, h⟩ := bnd h
 refine ecV [] (caV call143) (fun w hp => uj ho10_8 ho9_8 ((gt x_.r.vers 0).dot) ⟨(hx5 (of_decide_eq_true hk2)).1.1, (hx5 (of_decide_eq_true hk2)).1.2.1⟩ hp hz10) ?_
 rintro Γ11 _ _ hl12 ⟨A15, c16, row17, rfl, rfl, hr18, hr19, _⟩
 refine cwV 22 [_, _, _, _, _, _, _] ?_
 refine WR.nil (nxV (bo_ [5, 5] hl12 h07) fun k => ?_)
 refine hV 7 k (q:=moV) (k:=hV 8 k (q:=exV) (k:=hV 9 k (q:=exV) (k:=hV 10 k (q:=nlV) (k:=hV 11 k (q:=q_fl 7 eR) (k:=wl_ 12 rfl (stV 1 (.slice A15 z9.1.length c16) #[ii q.c_self, ii q.c_sites, .slice A2_8 q.c_links.length c2_8, ii q.c_cap, ii q.c_base, .slice A5_8 q.c_members.length c5_8, (pq g6_8), .slice A15 z9.1.length c16, .pointer A8_8, .slice A9_8 q.list.length c9_8, ii q.next, .map (some m11_8), .slice A12_8 q.members.length c12_8] sizeOf46 (k:=?_)))))))
 refine WR.nil (nxV (bo_ [5, 5] hl12 h07) fun k => ?_)
 refine WH.done (by kernel_rfl) ?_
 change WC _ _ _ _ _ _
 have hc24 := hr18.capz
 refine seC 0 [_, _, _, _, _, _, _] fun Γ20 hl21 hr22 => ?_
 have hs23 := hr18.sl hl21 hr22
 obtain ⟨row_25, hrow_25, hob_25⟩ : ∃ rw : Rowb, rw = ([[(gq, .cells #[ii q.c_self, ii q.c_sites, .slice A2_8 q.c_links.length c2_8, ii q.c_cap, ii q.c_base, .slice A5_8 q.c_members.length c5_8, (pq g6_8), .slice A15 z9.1.length c16, .pointer A8_8, .slice A9_8 q.list.length c9_8, ii q.next, .map (some m11_8), .slice A12_8 q.members.length c12_8] eq.1 (0, 0))], r6_8, r9_8, r11_8] : List Rowb).flatten ∧ a6.ob eq Γ20 gq rw (⟨q.c_self, q.c_sites, q.c_links, q.c_cap, q.c_base, q.c_members, q.log, z9.1, q.under, q.list, q.next, q.gaps, q.members⟩ : a6) := ⟨_, rfl, A2_8, c2_8, A5_8, c5_8, g6_8, r6_8, A15, c16, A8_8, A9_8, c9_8, r9_8, m11_8, r11_8, A12_8, c12_8, rfl, ho0_8, ho1_8, ho2_8, (ho3_8.mono (hl12.trans hl21)), ho4_8, ho5_8, ho6_8, (ho7_8.mono (hl12.trans hl21)), (ho8_8.mono (hl12.trans hl21)), hc24, hs23, (ho11_8.mono (hl12.trans hl21)), (ho12_8.mono (hl12.trans hl21)), ho13_8, (ho14_8.mono (hl12.trans hl21)), ho15_8, (ho16_8.mono (hl12.trans hl21)), trivial⟩
 refine foC [1, 1, 1, 1] hrow_25 [_, _, _, _] ?_
 refine WC.cut (fun σ w => ∃ (o26 : a6), ∃ (row27 : Rowb), ei x_ o26 = some r ∧ slots σ [(0, (pq gq)), (3, (pq g1))] ∧ CC F Γ20 [row27, [(g1, .cells (aj.cs Ax_0 cx_0 Ax_2 cx_2 x_).toArray 101 (0, 0))]] w ∧ a6.ob eq Γ20 gq row27 o26 ∧ True) ?_ ?_
 ·
  refine WC.seq ?_
  obtain ⟨A2_29, c2_29, A5_29, c5_29, g6_29, r6_29, A7_29, c7_29, A8_29, A9_29, c9_29, r9_29, m11_29, r11_29, A12_29, c12_29, hrow_29, ho0_29, ho1_29, ho2_29, ho3_29, ho4_29, ho5_29, ho6_29, ho7_29, ho8_29, ho9_29, ho10_29, ho11_29, ho12_29, ho13_29, ho14_29, ho15_29, ho16_29, -⟩ := id hob_25
  refine ufC 0 hrow_29 [_, _, _, _, _, _, _] ?_
  refine drV ?_
  refine zV (q_fl 0 cP) (k:=zV (ldV 5 isAgg3) (k:=zV moV (k:=zV nlV (k:=zV (q_fl 0 iL) (k:=zV (q_fl 0 iJ) (k:=zV (ldV 0 isAgg3) (k:=zV bp (k:=?_))))))))
  refine WQ.nil ?_
  change WC _ _ _ _ _ _
  refine ciV h (fun hb30 h => ?_) (fun hb30 h => ?_)
  ·
   refine WC.region ?_
   refine mV (k:=sV nlV (k:=sV (q_fl 8 iM) (k:=?_)))
   refine stV 0 (.pointer none) #[ii (⟨q.c_self, q.c_sites, q.c_links, q.c_cap, q.c_base, q.c_members, q.log, z9.1, q.under, q.list, q.next, q.gaps, q.members⟩ : a6).c_self, ii (⟨q.c_self, q.c_sites, q.c_links, q.c_cap, q.c_base, q.c_members, q.log, z9.1, q.under, q.list, q.next, q.gaps, q.members⟩ : a6).c_sites, .slice A2_29 ((⟨q.c_self, q.c_sites, q.c_links, q.c_cap, q.c_base, q.c_members, q.log, z9.1, q.under, q.list, q.next, q.gaps, q.members⟩ : a6).c_links).length c2_29, ii (⟨q.c_self, q.c_sites, q.c_links, q.c_cap, q.c_base, q.c_members, q.log, z9.1, q.under, q.list, q.next, q.gaps, q.members⟩ : a6).c_cap, ii (⟨q.c_self, q.c_sites, q.c_links, q.c_cap, q.c_base, q.c_members, q.log, z9.1, q.under, q.list, q.next, q.gaps, q.members⟩ : a6).c_base, .slice A5_29 ((⟨q.c_self, q.c_sites, q.c_links, q.c_cap, q.c_base, q.c_members, q.log, z9.1, q.under, q.list, q.next, q.gaps, q.members⟩ : a6).c_members).length c5_29, (pq g6_29), .slice A7_29 ((⟨q.c_self, q.c_sites, q.c_links, q.c_cap, q.c_base, q.c_members, q.log, z9.1, q.under, q.list, q.next, q.gaps, q.members⟩ : a6).applied).length c7_29, .pointer none, .slice A9_29 ((⟨q.c_self, q.c_sites, q.c_links, q.c_cap, q.c_base, q.c_members, q.log, z9.1, q.under, q.list, q.next, q.gaps, q.members⟩ : a6).list.length) c9_29, ii (⟨q.c_self, q.c_sites, q.c_links, q.c_cap, q.c_base, q.c_members, q.log, z9.1, q.under, q.list, q.next, q.gaps, q.members⟩ : a6).next, .map (some m11_29), .slice A12_29 ((⟨q.c_self, q.c_sites, q.c_links, q.c_cap, q.c_base, q.c_members, q.log, z9.1, q.under, q.list, q.next, q.gaps, q.members⟩ : a6).members).length c12_29] sizeOf81 (k:=?_)
   refine WR.nil ?_
   intro w hw
   obtain ⟨row_31, hrow_31, hob_31⟩ : ∃ rw : Rowb, rw = ([[(gq, .cells #[ii (⟨q.c_self, q.c_sites, q.c_links, q.c_cap, q.c_base, q.c_members, q.log, z9.1, q.under, q.list, q.next, q.gaps, q.members⟩ : a6).c_self, ii (⟨q.c_self, q.c_sites, q.c_links, q.c_cap, q.c_base, q.c_members, q.log, z9.1, q.under, q.list, q.next, q.gaps, q.members⟩ : a6).c_sites, .slice A2_29 ((⟨q.c_self, q.c_sites, q.c_links, q.c_cap, q.c_base, q.c_members, q.log, z9.1, q.under, q.list, q.next, q.gaps, q.members⟩ : a6).c_links).length c2_29, ii (⟨q.c_self, q.c_sites, q.c_links, q.c_cap, q.c_base, q.c_members, q.log, z9.1, q.under, q.list, q.next, q.gaps, q.members⟩ : a6).c_cap, ii (⟨q.c_self, q.c_sites, q.c_links, q.c_cap, q.c_base, q.c_members, q.log, z9.1, q.under, q.list, q.next, q.gaps, q.members⟩ : a6).c_base, .slice A5_29 ((⟨q.c_self, q.c_sites, q.c_links, q.c_cap, q.c_base, q.c_members, q.log, z9.1, q.under, q.list, q.next, q.gaps, q.members⟩ : a6).c_members).length c5_29, (pq g6_29), .slice A7_29 ((⟨q.c_self, q.c_sites, q.c_links, q.c_cap, q.c_base, q.c_members, q.log, z9.1, q.under, q.list, q.next, q.gaps, q.members⟩ : a6).applied).length c7_29, .pointer none, .slice A9_29 ((⟨q.c_self, q.c_sites, q.c_links, q.c_cap, q.c_base, q.c_members, q.log, z9.1, q.under, q.list, q.next, q.gaps, q.members⟩ : a6).list.length) c9_29, ii (⟨q.c_self, q.c_sites, q.c_links, q.c_cap, q.c_base, q.c_members, q.log, z9.1, q.under, q.list, q.next, q.gaps, q.members⟩ : a6).next, .map (some m11_29), .slice A12_29 ((⟨q.c_self, q.c_sites, q.c_links, q.c_cap, q.c_base, q.c_members, q.log, z9.1, q.under, q.list, q.next, q.gaps, q.members⟩ : a6).members).length c12_29] eq.1 (0, 0))], r6_29, r9_29, r11_29] : List Rowb).flatten ∧ a6.ob eq Γ20 gq rw (⟨(⟨q.c_self, q.c_sites, q.c_links, q.c_cap, q.c_base, q.c_members, q.log, z9.1, q.under, q.list, q.next, q.gaps, q.members⟩ : a6).c_self, (⟨q.c_self, q.c_sites, q.c_links, q.c_cap, q.c_base, q.c_members, q.log, z9.1, q.under, q.list, q.next, q.gaps, q.members⟩ : a6).c_sites, (⟨q.c_self, q.c_sites, q.c_links, q.c_cap, q.c_base, q.c_members, q.log, z9.1, q.under, q.list, q.next, q.gaps, q.members⟩ : a6).c_links, (⟨q.c_self, q.c_sites, q.c_links, q.c_cap, q.c_base, q.c_members, q.log, z9.1, q.under, q.list, q.next, q.gaps, q.members⟩ : a6).c_cap, (⟨q.c_self, q.c_sites, q.c_links, q.c_cap, q.c_base, q.c_members, q.log, z9.1, q.under, q.list, q.next, q.gaps, q.members⟩ : a6).c_base, (⟨q.c_self, q.c_sites, q.c_links, q.c_cap, q.c_base, q.c_members, q.log, z9.1, q.under, q.list, q.next, q.gaps, q.members⟩ : a6).c_members, (⟨q.c_self, q.c_sites, q.c_links, q.c_cap, q.c_base, q.c_members, q.log, z9.1, q.under, q.list, q.next, q.gaps, q.members⟩ : a6).log, (⟨q.c_self, q.c_sites, q.c_links, q.c_cap, q.c_base, q.c_members, q.log, z9.1, q.under, q.list, q.next, q.gaps, q.members⟩ : a6).applied, none, (⟨q.c_self, q.c_sites, q.c_links, q.c_cap, q.c_base, q.c_members, q.log, z9.1, q.under, q.list, q.next, q.gaps, q.members⟩ : a6).list, (⟨q.c_self, q.c_sites, q.c_links, q.c_cap, q.c_base, q.c_members, q.log, z9.1, q.under, q.list, q.next, q.gaps, q.members⟩ : a6).next, (⟨q.c_self, q.c_sites, q.c_links, q.c_cap, q.c_base, q.c_members, q.log, z9.1, q.under, q.list, q.next, q.gaps, q.members⟩ : a6).gaps, (⟨q.c_self, q.c_sites, q.c_links, q.c_cap, q.c_base, q.c_members, q.log, z9.1, q.under, q.list, q.next, q.gaps, q.members⟩ : a6).members⟩ : a6) := ⟨_, rfl, A2_29, c2_29, A5_29, c5_29, g6_29, r6_29, A7_29, c7_29, none, A9_29, c9_29, r9_29, m11_29, r11_29, A12_29, c12_29, rfl, ho0_29, ho1_29, ho2_29, ho3_29, ho4_29, ho5_29, ho6_29, ho7_29, ho8_29, ho9_29, ho10_29, (Pd.nil _ _), ho12_29, ho13_29, ho14_29, ho15_29, ho16_29, trivial⟩
   have hw := hw.fold (is := [0, 0, 0, 0]) rfl hrow_31
   exact ⟨(⟨(⟨q.c_self, q.c_sites, q.c_links, q.c_cap, q.c_base, q.c_members, q.log, z9.1, q.under, q.list, q.next, q.gaps, q.members⟩ : a6).c_self, (⟨q.c_self, q.c_sites, q.c_links, q.c_cap, q.c_base, q.c_members, q.log, z9.1, q.under, q.list, q.next, q.gaps, q.members⟩ : a6).c_sites, (⟨q.c_self, q.c_sites, q.c_links, q.c_cap, q.c_base, q.c_members, q.log, z9.1, q.under, q.list, q.next, q.gaps, q.members⟩ : a6).c_links, (⟨q.c_self, q.c_sites, q.c_links, q.c_cap, q.c_base, q.c_members, q.log, z9.1, q.under, q.list, q.next, q.gaps, q.members⟩ : a6).c_cap, (⟨q.c_self, q.c_sites, q.c_links, q.c_cap, q.c_base, q.c_members, q.log, z9.1, q.under, q.list, q.next, q.gaps, q.members⟩ : a6).c_base, (⟨q.c_self, q.c_sites, q.c_links, q.c_cap, q.c_base, q.c_members, q.log, z9.1, q.under, q.list, q.next, q.gaps, q.members⟩ : a6).c_members, (⟨q.c_self, q.c_sites, q.c_links, q.c_cap, q.c_base, q.c_members, q.log, z9.1, q.under, q.list, q.next, q.gaps, q.members⟩ : a6).log, (⟨q.c_self, q.c_sites, q.c_links, q.c_cap, q.c_base, q.c_members, q.log, z9.1, q.under, q.list, q.next, q.gaps, q.members⟩ : a6).applied, none, (⟨q.c_self, q.c_sites, q.c_links, q.c_cap, q.c_base, q.c_members, q.log, z9.1, q.under, q.list, q.next, q.gaps, q.members⟩ : a6).list, (⟨q.c_self, q.c_sites, q.c_links, q.c_cap, q.c_base, q.c_members, q.log, z9.1, q.under, q.list, q.next, q.gaps, q.members⟩ : a6).next, (⟨q.c_self, q.c_sites, q.c_links, q.c_cap, q.c_base, q.c_members, q.log, z9.1, q.under, q.list, q.next, q.gaps, q.members⟩ : a6).gaps, (⟨q.c_self, q.c_sites, q.c_links, q.c_cap, q.c_base, q.c_members, q.log, z9.1, q.under, q.list, q.next, q.gaps, q.members⟩ : a6).members⟩ : a6), row_31, h, slK, (hw.on [0, 2]), hob_31, trivial⟩
  refine WC.skip ?_
  intro w hw
  have hw := hw.fold (is := [0, 0, 0, 0]) rfl hrow_29
  exact ⟨(⟨q.c_self, q.c_sites, q.c_links, q.c_cap, q.c_base, q.c_members, q.log, z9.1, q.under, q.list, q.next, q.gaps, q.members⟩ : a6), row_25, h, slK, (hw.on [0, 2]), hob_25, trivial⟩
 rintro σ w ⟨o26, row27, h, hsl, hw, ho28, -⟩
 refine slV hsl hw [_, _] ?_; clear hw hsl
 refine WC.rs (aV (k:=WR.done (WC.seq (WC.rs (mV (k:=sV nlV (k:=sV (q_fl 0 iL) (k:=?_))))))))
 refine sV (q_fl 2 gx) (k:=?_)
 obtain ⟨A2_33, c2_33, A5_33, c5_33, g6_33, r6_33, A7_33, c7_33, A8_33, A9_33, c9_33, r9_33, m11_33, r11_33, A12_33, c12_33, hrow_33, ho0_33, ho1_33, ho2_33, ho3_33, ho4_33, ho5_33, ho6_33, ho7_33, ho8_33, ho9_33, ho10_33, ho11_33, ho12_33, ho13_33, ho14_33, ho15_33, ho16_33, -⟩ := id ho28
 refine ufR 0 hrow_33 [_, _, _, _, _] ?_
 refine sV (ldV 0 isAgg22) (k:=sV (ab rfl underlying22) (k:=mV (k:=WR.done (WC.block ?_))))
 refine foC [0, 0, 0, 0] hrow_33 [_, _] ?_
 refine WC.forI h (fun (i41 : Nat) (sinks_35 : List Int) σ w => ∃ (A36 : Option Addr), ∃ (c37 : Nat), ∃ (row38 : Rowb), slots σ [(0, (pq gq)), (3, (pq g1)), (5, .slice A36 sinks_35.length c37), (42, .slice A2_33 o26.c_links.length c2_33), (43, ii (o26.c_links.length : Int)), (44, ii (i41 : Int))] ∧ CC F Γ20 [row38, row27, [(g1, .cells (aj.cs Ax_0 cx_0 Ax_2 cx_2 x_).toArray 101 (0, 0))]] w ∧ Own intT Γ20 3 row38 A36 c37 sinks_35 ∧ True) ?_ ?_
 ·
  intro w hw
  have hw := hw.pad
  exact ⟨none, 0, [], slK, hw, (Own.nil intT _ 3), trivial⟩
 rintro f40 i41 sinks_35 σ w hi42 hlt43 hge44 ⟨A36, c37, row38, hsl, hw, ho39, -⟩
 refine slV hsl hw [_, _, _] ?_; clear hw hsl
 refine WC.rs (sV aS (k:=WR.done (WC.seq ?_)))
 refine coV (fun hb45 => ?_) (fun hb45 => ?_)
 ·
  have hl46 := ilt hb45
  have h := hlt43 hl46
  refine WC.skip (wc_ ?_)
  refine WC.cut (fun σ w => ∃ (sinks_47 : List Int), ∃ (A48 : Option Addr), ∃ (c49 : Nat), ∃ (row50 : Rowb), gy f40 sinks_47 = some r ∧ slots σ [(0, (pq gq)), (3, (pq g1)), (5, .slice A48 sinks_47.length c49), (42, .slice A2_33 o26.c_links.length c2_33), (43, ii (o26.c_links.length : Int)), (44, ii (i41 : Int))] ∧ CC F Γ20 [row50, row27, [(g1, .cells (aj.cs Ax_0 cx_0 Ax_2 cx_2 x_).toArray 101 (0, 0))]] w ∧ Own intT Γ20 3 row50 A48 c49 sinks_47 ∧ True) ?_ ?_
  ·
   refine WC.block (WC.rs (sV (bb (i := i41) underlying22 sizeOf3 rfl rfl rfl hl46 (ho3_33.some_ hl46)) (k:=sV (q_ld (c := 0) (v := ii (gt o26.c_links i41)) (ho3_33.intT_at hl46).2 rfl isAgg3 rfl rfl) (k:=aV (k:=WR.done (WC.rs (sV (q_fl 0 mO) (k:=?_))))))))
   refine sV (ldV 2 isAgg22) (k:=mV (k:=?_))
   obtain ⟨z52, hz53, h⟩ := bnd h
   refine vqV (caV call139) (fun w hw => dT (Γ := Gh.all w) ((hx_.1.2.mono (hl12.trans hl21)).mono hw.sat.le_all) hx_.1.1 (gt o26.c_links i41) (ho3_33.intT_at hl46).1 (Sat.all w) hz53) (k:=sV bu (k:=WR.done ?_))
   refine ciV h (fun hb54 h => ?_) (fun hb54 h => ?_)
   ·
    refine WC.region ?_
    refine mV (k:=mV (k:=?_))
    refine bsV #[ii (gt o26.c_links i41)] 3 fun g55 => ?_
    obtain ⟨hk56, h⟩ := ai h
    refine apV 1 [(gt o26.c_links i41)] tn ho39 (of_decide_eq_true hk56) (fun w hw => dR (i := 0) rfl (by exact ⟨rfl, (ho3_33.intT_at hl46).1⟩) hw) ?_
    intro row57 A58 c59 ho60
    refine aV (k:=?_)
    refine WR.nil ?_
    intro w hw
    exact ⟨(sinks_35 ++ [(gt o26.c_links i41)]), A58, c59, row57, h, slK, (hw.on [1, 1, 1]), ho60, trivial⟩
   refine WC.skip ?_
   intro w hw
   exact ⟨sinks_35, A36, c37, row38, h, slK, hw, ho39, trivial⟩
  rintro σ w ⟨sinks_47, A48, c49, row50, h, hsl, hw, ho51, -⟩
  refine slV hsl hw [_, _, _] ?_; clear hw hsl
  refine WC.region ?_
  refine sV (aC rfl rfl rfl (aP hl46 ho3_33.le)) (k:=mV (k:=?_))
  refine WR.nil ?_
  intro w hw
  exact ⟨hl46, sinks_47, h, A48, c49, row50, slK, hw, ho51, trivial⟩
 have h := hge44 (ige hb45)
 refine WC.exit ?_
 change WC _ _ _ _ _ _
 refine WC.seq ?_
 have hc65 := ho39.capz
 refine seC 0 [_, _, _] fun Γ61 hl62 hr63 => ?_
 have hs64 := ho39.sl hl62 hr63
 refine leV fun h066 => ?_
 refine eD (CC F Γ61 [[], [(g1, .cells (aj.cs Ax_0 cx_0 Ax_2 cx_2 x_).toArray 101 (0, 0))]]) (bo_ [0, 1] gR h066) fun k => ?_
 change WH _ _ _ _ (CC F Γ61 [_, _, _]) _ 11 _ _
 refine hV 0 k (q:=moV) (k:=hV 1 k (q:=moV) (k:=hV 2 k (q:=nlV) (k:=hV 3 k (q:=q_fl 10 oF) (k:=hV 5 k (q:=q_fl 1 jf) (k:=hV 6 k (q:=ldaV 1 (Rec.cs Ax_2 cx_2 x_.r) isAgg42 sizeOf42) (k:=hV 7 k (q:=q_fl 0 mO) (k:=hV 8 k (q:=ldV 1 isAgg22) (k:=?_))))))))
 refine hV 9 k (q:=moV) (k:=wl_ 4 rfl ?_)
 obtain ⟨A2_67, c2_67, A5_67, c5_67, g6_67, r6_67, A7_67, c7_67, A8_67, A9_67, c9_67, r9_67, m11_67, r11_67, A12_67, c12_67, hrow_67, ho0_67, ho1_67, ho2_67, ho3_67, ho4_67, ho5_67, ho6_67, ho7_67, ho8_67, ho9_67, ho10_67, ho11_67, ho12_67, ho13_67, ho14_67, ho15_67, ho16_67, -⟩ := (ho28.mono hl62)
 refine ufR 1 hrow_67 [_, _, _, _, _, _] ?_
 refine sV (ldV 0 isAgg2) (k:=?_)
 refine WR.nil (nxV (bo_ [4, 4] gR h066) fun k => ?_)
 refine wl_ 10 rfl ?_
 refine foR [0, 0, 0, 0] hrow_67 [_, _, _] ?_
 obtain ⟨z69, hz70, h⟩ := bnd h
 refine ecV [0] (caV call88) (fun w hp => oU (ho28.mono hl62) o26.next ho13_67 x_.r ⟨hx_.2.1, ⟨hx_.2.2.1, (hx_.2.2.2.mono ((hl12.trans hl21).trans hl62))⟩⟩ (hx_.1.2.mono ((hl12.trans hl21).trans hl62)) hx_.1.1 hs64 hc65 hp hz70) ?_
 rintro Γ71 _ _ hl72 ⟨row75, rfl, rfl, hr76, _⟩
 refine cwV 68 [_, _, _] ?_
 refine WR.nil (nxV (bo_ [1, 1] hl72 h066) fun k => ?_)
 refine WH.done (by kernel_rfl) ?_
 change WC _ _ _ _ _ _
 refine WC.rs (mV (k:=sV nlV (k:=sV (q_fl 10 oF) (k:=?_))))
 obtain ⟨A2_77, c2_77, A5_77, c5_77, g6_77, r6_77, A7_77, c7_77, A8_77, A9_77, c9_77, r9_77, m11_77, r11_77, A12_77, c12_77, hrow_77, ho0_77, ho1_77, ho2_77, ho3_77, ho4_77, ho5_77, ho6_77, ho7_77, ho8_77, ho9_77, ho10_77, ho11_77, ho12_77, ho13_77, ho14_77, ho15_77, ho16_77, -⟩ := id hr76
 refine ufR 0 hrow_77 [_, _, _, _, _, _] ?_
 refine sV (ldV 0 isAgg2) (k:=sV eE (k:=sV nlV (k:=sV (q_fl 10 oF) (k:=stV 0 (ii (w64 (z69.next + 1))) #[ii z69.c_self, ii z69.c_sites, .slice A2_77 z69.c_links.length c2_77, ii z69.c_cap, ii z69.c_base, .slice A5_77 z69.c_members.length c5_77, (pq g6_77), .slice A7_77 z69.applied.length c7_77, .pointer A8_77, .slice A9_77 z69.list.length c9_77, ii (w64 (z69.next + 1)), .map (some m11_77), .slice A12_77 z69.members.length c12_77] sizeOf2 (k:=WR.done (WC.seq ?_))))))
 refine drV ?_
 refine zV moV (k:=zV nlV (k:=zV (q_fl 9 dD) (k:=zV (ldV 0 isAgg82) (k:=?_))))
 have hlen78 : z69.list.length ≤ lim := ho12_77.le
 refine zV (ab rfl underlying82) (k:=zV moV (k:=zV nlV (k:=zV (q_fl 0 iL) (k:=zV (q_fl 3 kb) (k:=zV (ldV 0 isAgg3) (k:=zV bB (k:=?_)))))))
 refine WQ.nil ?_
 change WC _ _ _ _ _ _
 refine ciV h (fun hb79 h => ?_) (fun hb79 h => ?_)
 ·
  refine WC.seq (WC.rs (mV (k:=sV nlV (k:=sV (q_fl 9 dD) (k:=sV (ldV 0 isAgg82) (k:=?_))))))
  obtain ⟨hk80, h⟩ := ai h
  refine sV (bb (i := 0) underlying82 sizeOf104 rfl rfl rfl (of_decide_eq_true hk80) (ho12_77.some_ (of_decide_eq_true hk80))) (k:=sV (b6 (0 * 5 + 4) k9 rfl rfl (ho12_77.some_ (of_decide_eq_true hk80)) rfl) (k:=?_))
  obtain ⟨g_81, rL_81, rA_81, rM_81, rB_81, cs_81, hrow_81, hrd_81, hvc_81, hsub_81, hm_81, hback_81⟩ := LM.part ho12_77 (of_decide_eq_true hk80)
  obtain ⟨A_81_2, c_81_2, A_81_3, c_81_3, rfl, hrd_81⟩ := hrd_81
  have hs1_81 : ∀ p ∈ rL_81, p ∈ r9_77 := fun p hp => by rw [hrow_81]; exact List.mem_append.2 (.inl (hsub_81 p hp))
  have hs2_81 : ∀ p ∈ rM_81, p ∈ r9_77 := fun p hp => by rw [hrow_81]; exact List.mem_append.2 (.inr (List.mem_append.2 (.inl hp)))
  refine sV (yL (c := 4) (v := .map (some g_81)) (i := 2) rfl hs1_81 hvc_81 rfl isAgg80 rfl rfl) (k:=?_)
  intro w hw; have hw := hw.unfold (U := [rA_81, rM_81, rB_81]) (i := 2) rfl (by rw [hrow_81]; simp)
  refine WR.here (C := CC F Γ71 [_, _, _, _, _, _, _, _]) ?_ hw
  clear hw
  refine vM hm_81 (fun w hw p hp => hw.at_ (i := 1) rfl hp) rfl rfl rfl underlying80 rfl ?_
  intro g82 row83 hi84
  refine cwV 94 [_, _, _, _, _, _, _, _, _] (WR.done (WC.block ?_))
  refine WC.forEq h wt (ym (c := true) (fun _ _ => rfl)) hm_81.nodup (yb ho14_77.nodup) (fun (l85 : List (Int × Bool)) (m88 : List (Int × Bool)) σ w => ∃ (row86 : Rowb), ∃ (row89 : Rowb), slots σ [(0, (pq gq)), (94, (pq g82))] ∧ CC F Γ71 [row86, rA_81, rM_81, rB_81, [(gq, .cells #[ii z69.c_self, ii z69.c_sites, .slice A2_77 z69.c_links.length c2_77, ii z69.c_cap, ii z69.c_base, .slice A5_77 z69.c_members.length c5_77, (pq g6_77), .slice A7_77 z69.applied.length c7_77, .pointer A8_77, .slice A9_77 z69.list.length c9_77, ii (w64 (z69.next + 1)), .map (some m11_77), .slice A12_77 z69.members.length c12_77] eq.1 (0, 0))], r6_77, row89] w ∧ ItO (intK underlying3) iW.v Γ71 row86 g82 g_81 rM_81 ((gt z69.list 0).want) l85 ∧ MapO (intK underlying3) iW.v Γ71 row89 m11_77 m88 ∧ True) ?_ ?_
  ·
   intro w hw
   exact ⟨row83, r11_77, slK, (hw.on [0, 0, 0, 0, 0, 0, 0]), hi84, ho14_77, trivial⟩
  rintro G96 l85 m88 σ w hstep91 hK92 ⟨row86, row89, hsl, hw, hi87, ho90, -⟩
  refine slV hsl hw [_, _, _, _, _, _, _] ?_; clear hw hsl
  refine WC.rs ?_
  refine yK (i := 0) rfl hm_81.ks hi87 (fun w hw p hp => hw.at_ (i := 2) rfl hp) rfl rfl rfl rfl (fun hl97 => ?_) (fun en98 l99 v100 row101 hp102 hok103 hv104 hit105 he106 => ?_)
  ·
   obtain ⟨m107, hp108, h⟩ := hK92 hl97
   refine cwV 95 [_, _, _, _, _, _, _] (sV exV (k:=WR.done (WC.seq ?_)))
   refine WC.cfk (b := false) (by kernel_rfl) rfl ?_
   refine WC.exit ?_
   change WC _ _ _ _ _ _
   refine WC.region ?_
   refine mV (k:=mV (k:=sV nlV (k:=sV (q_fl 9 dD) (k:=sV (ldV 4 isAgg82) (k:=?_)))))
   intro w hw; have hw := hw.fold (is := [1, 1, 1]) rfl (show r9_77 = ([rA_81, rM_81, rB_81] : List Rowb).flatten from by rw [hrow_81]; simp)
   refine WR.here (C := CC F Γ71 [_, _, _, _, _]) ?_ hw
   clear hw
   obtain ⟨hk109, h⟩ := ai h
   refine sV (ly (c := c9_77) (lo := 1) (xs := z69.list) underlying82 sizeOf104 rfl rfl rfl (of_decide_eq_true hk109)) (k:=sV nlV (k:=sV (q_fl 9 dD) (k:=?_)))
   obtain ⟨row110, hp_111, hm112⟩ := LM.cut_from (lo := 1) ho12_77 (of_decide_eq_true hk109)
   refine WR.reorder (i := 0) rfl hp_111 ?_
   refine stV 2 (.slice (if c9_77 = 1 then A9_77 else Option.map (fun a => a.add (1 * 5)) A9_77) ((List.drop 1 z69.list).length) (c9_77 - 1)) #[ii z69.c_self, ii z69.c_sites, .slice A2_77 z69.c_links.length c2_77, ii z69.c_cap, ii z69.c_base, .slice A5_77 z69.c_members.length c5_77, (pq g6_77), .slice A7_77 z69.applied.length c7_77, .pointer A8_77, .slice (if c9_77 = 1 then A9_77 else Option.map (fun a => a.add (1 * 5)) A9_77) ((List.drop 1 z69.list).length) (c9_77 - 1), ii (w64 (z69.next + 1)), .map (some m11_77), .slice A12_77 z69.members.length c12_77] sizeOf82 (k:=?_)
   refine WR.nil ?_
   intro w hw
   obtain ⟨row_113, hrow_113, hob_113⟩ : ∃ rw : Rowb, rw = ([[(gq, .cells #[ii z69.c_self, ii z69.c_sites, .slice A2_77 z69.c_links.length c2_77, ii z69.c_cap, ii z69.c_base, .slice A5_77 z69.c_members.length c5_77, (pq g6_77), .slice A7_77 z69.applied.length c7_77, .pointer A8_77, .slice (if c9_77 = 1 then A9_77 else Option.map (fun a => a.add (1 * 5)) A9_77) ((List.drop 1 z69.list).length) (c9_77 - 1), ii (w64 (z69.next + 1)), .map (some m11_77), .slice A12_77 z69.members.length c12_77] eq.1 (0, 0))], r6_77, row110, row89] : List Rowb).flatten ∧ a6.ob eq Γ71 gq rw (⟨z69.c_self, z69.c_sites, z69.c_links, z69.c_cap, z69.c_base, z69.c_members, z69.log, z69.applied, z69.under, (List.drop 1 z69.list), (w64 (z69.next + 1)), m107, z69.members⟩ : a6) := ⟨_, rfl, A2_77, c2_77, A5_77, c5_77, g6_77, r6_77, A7_77, c7_77, A8_77, (if c9_77 = 1 then A9_77 else Option.map (fun a => a.add (1 * 5)) A9_77), (c9_77 - 1), row110, m11_77, row89, A12_77, c12_77, rfl, ho0_77, ho1_77, ho2_77, ho3_77, ho4_77, ho5_77, ho6_77, ho7_77, ho8_77, ho9_77, ho10_77, ho11_77, hm112, (iA _), (ho90.perm hp108.1), ho15_77, ho16_77, trivial⟩
   have hw := hw.fold (is := [2, 2, 0, 1]) rfl hrow_113
   obtain rfl := Option.some.inj h
   subst hF
   exact aO (is := [0]) (by kernel_rfl) hw rfl ⟨row_113, rfl, rfl, hob_113, trivial⟩
  obtain ⟨hlen93, s294, h, hgo95⟩ := hstep91 en98 l99 hp102
  obtain rfl : v100 = _ := List.cons.inj hv104 |>.1
  refine cwV 95 [_, _, _, _, _, _, _] (sV exV (k:=WR.done (WC.seq ?_)))
  refine WC.ctk (b := true) (by kernel_rfl) rfl ?_
  refine WC.skip (wc_ (WC.block (WC.rs (sV (vS (kv := ii en98.1) (v := .bool en98.2) (i := 0) rfl he106 (fun w hw p hp => hw.at_ (i := 2) rfl hp) rfl rfl) (k:=sV exV (k:=aV (k:=WR.done ?_)))))))
  refine WC.region ?_
  refine mV (k:=sV nlV (k:=sV (q_fl 11 pc) (k:=sV (ldV 4 isAgg80) (k:=mV (k:=?_)))))
  refine kM (i := 6) (x := en98.1) (v := .bool true) (a := true) rfl rfl rfl underlying80 rfl rfl (by kernel_rfl) rfl ho90 (by exact rfl) hok103 ?_
  intro row114 hm115
  refine WR.nil ?_
  intro w hw
  obtain rfl := Option.some.inj h
  exact ⟨l99, _, hlen93, hgo95, row101, row114, slK, hw, hit105, hm115, trivial⟩
 refine WC.skip ?_
 intro w hw
 obtain ⟨row_116, hrow_116, hob_116⟩ : ∃ rw : Rowb, rw = ([[(gq, .cells #[ii z69.c_self, ii z69.c_sites, .slice A2_77 z69.c_links.length c2_77, ii z69.c_cap, ii z69.c_base, .slice A5_77 z69.c_members.length c5_77, (pq g6_77), .slice A7_77 z69.applied.length c7_77, .pointer A8_77, .slice A9_77 z69.list.length c9_77, ii (w64 (z69.next + 1)), .map (some m11_77), .slice A12_77 z69.members.length c12_77] eq.1 (0, 0))], r6_77, r9_77, r11_77] : List Rowb).flatten ∧ a6.ob eq Γ71 gq rw (⟨z69.c_self, z69.c_sites, z69.c_links, z69.c_cap, z69.c_base, z69.c_members, z69.log, z69.applied, z69.under, z69.list, (w64 (z69.next + 1)), z69.gaps, z69.members⟩ : a6) := ⟨_, rfl, A2_77, c2_77, A5_77, c5_77, g6_77, r6_77, A7_77, c7_77, A8_77, A9_77, c9_77, r9_77, m11_77, r11_77, A12_77, c12_77, rfl, ho0_77, ho1_77, ho2_77, ho3_77, ho4_77, ho5_77, ho6_77, ho7_77, ho8_77, ho9_77, ho10_77, ho11_77, ho12_77, (iA _), ho14_77, ho15_77, ho16_77, trivial⟩
 have hw := hw.fold (is := [0, 0, 0, 0]) rfl hrow_116
 obtain rfl := Option.some.inj h
 subst hF
 exact aO (is := [0]) (by kernel_rfl) hw rfl ⟨row_116, rfl, rfl, hob_116, trivial⟩
abbrev lC (gq : Nat) (eq : Nat × Nat) (r : a6) (U : List Rowb) (Γ : Gh) (v : Value) : Prop := ∃ (rowq' : Rowb), v = .tuple #[] ∧ U = [rowq'] ∧ a6.ob eq Γ gq rowq' r ∧ True
theorem bN {gq : Nat} {eq : Nat × Nat} {rowq : Rowb} {q : a6} (hq : a6.ob eq Γ gq rowq q) {Ax_0 : Option Addr} {cx_0 : Nat} {Ax_2 : Option Addr} {cx_2 : Nat} (x_ : aj) (hx_ : aj.fits Γ Ax_0 cx_0 Ax_2 cx_2 x_) (hp : Pre [rowq] Γ w0) {r : a6} (h : aM q x_ = some r) : Calls Tryz.prog 35 #[(pq gq), .iface 101 (.agg (aj.cs Ax_0 cx_0 Ax_2 cx_2 x_).toArray)] w0 (Outc Γ [rowq] w0 (lC gq eq r)) := by
 refine goV [] func35 ntmps35 results35 hp fun F hF => ?_
 refine WC.rs (mU (v := .iface 101 (.agg (aj.cs Ax_0 cx_0 Ax_2 cx_2 x_).toArray)) (k:=WR.done (WC.block (WC.rs (sV (aH underlying98 zeroValue98 rfl rfl rfl) (k:=sV exV (k:=sV exV (k:=?_))))))))
 refine WR.done ?_
 refine WC.cfk (b := false) (by kernel_rfl) rfl ?_
 refine WC.rs (sV (dv underlying101 rfl rfl) (k:=sV exV (k:=sV exV (k:=WR.done ?_))))
 refine WC.ctk (b := true) (by kernel_rfl) rfl ?_
 refine WC.rs ?_
 refine alV zeroValue101 fun g1 => ?_
 refine stV 0 (.agg (aj.cs Ax_0 cx_0 Ax_2 cx_2 x_).toArray) (aj.cs Ax_0 cx_0 Ax_2 cx_2 x_).toArray sizeOf101 (k:=WR.done ?_)
 refine WC.region ?_
 refine mV (k:=sV (ldaV 0 (aj.cs Ax_0 cx_0 Ax_2 cx_2 x_) isAgg101 sizeOf101) (k:=?_))
 obtain ⟨z2, hz3, h⟩ := bnd h
 refine ecV [1] (caV call83) (fun w hp => ou hq x_ hx_ hp hz3) ?_
 rintro Γ4 _ _ hl5 ⟨row8, rfl, rfl, hr9, _⟩
 refine cwV 27 [_, _] ?_
 refine WR.nil ?_
 intro w hw
 obtain rfl := Option.some.inj h
 subst hF
 exact aO (is := [0]) (by kernel_rfl) hw rfl ⟨row8, rfl, rfl, hr9, trivial⟩
theorem kr {gq : Nat} {eq : Nat × Nat} {rowq : Rowb} {q : a6} (hq : a6.ob eq Γ gq rowq q) (hqr : ∀ p ∈ rowq, Γ p.1 = some p.2) (n : Int) (hn : I64 n) (hs : Sat Γ w0) {r : Bool} (h : dN q n = some r) : CQ Tryz.prog 79 #[(pq gq), ii n] w0 (.bool r) := by
 refine goQ [4] func79 ntmps79 results79 hs fun F hF => ?_
 refine WC.rs (aV (k:=WR.done (WC.rs (mV (k:=sV gm (k:=mV (k:=vG1 (h:=fun hg1 => moV) (k:=?_))))))))
 refine vG1 (h:=fun hg2 => nlV (hv:=grV hg2)) (k:=vG1 (h:=fun hg3 => q_fl 0 iL rfl (grV hg3)) (k:=vG1 (h:=fun hg4 => q_fl 2 gx rfl (grV hg4)) (k:=?_)))
 obtain ⟨A2_6, c2_6, A5_6, c5_6, g6_6, r6_6, A7_6, c7_6, A8_6, A9_6, c9_6, r9_6, m11_6, r11_6, A12_6, c12_6, hrow_6, ho0_6, ho1_6, ho2_6, ho3_6, ho4_6, ho5_6, ho6_6, ho7_6, ho8_6, ho9_6, ho10_6, ho11_6, ho12_6, ho13_6, ho14_6, ho15_6, ho16_6, -⟩ := id hq
 have hg_7 : ∀ u ∈ ([[(gq, .cells #[ii q.c_self, ii q.c_sites, .slice A2_6 q.c_links.length c2_6, ii q.c_cap, ii q.c_base, .slice A5_6 q.c_members.length c5_6, (pq g6_6), .slice A7_6 q.applied.length c7_6, .pointer A8_6, .slice A9_6 q.list.length c9_6, ii q.next, .map (some m11_6), .slice A12_6 q.members.length c12_6] eq.1 (0, 0))], r6_6, r9_6, r11_6] : List Rowb), ∀ p ∈ u, Γ p.1 = some p.2 := fun u hu p hp => (fun p hp => (hqr p hp)) p (hrow_6 ▸ List.mem_flatten.2 ⟨u, hu, hp⟩)
 have hgc8 := hg_7 _ (List.mem_cons_self ..) (gq, _) (List.mem_singleton.2 rfl)
 have hgs9 := hg_7 r6_6 (by simp)
 have hgs10 := hg_7 r9_6 (by simp)
 have hgs11 := hg_7 r11_6 (by simp)
 refine vG1 (h:=fun hg5 => gF (v := .slice A2_6 q.c_links.length c2_6) hgc8 rfl isAgg22 (grV hg5) rfl) (k:=vG1 (h:=fun hg12 => moV) (k:=?_))
 obtain ⟨z14, hz15, h⟩ := bnd h
 refine vC1 (h:=fun hg13 => bl (aR call139 rfl rfl (fh (grV hg13) (grV hg13))) (fun w hw => dT (Γ := Gh.all w) (ho3_6.mono hw.sat.le_all) ho2_6 n hn (Sat.all w) (eQ hz15 hg13))) (k:=sV pkA (k:=aV (k:=WR.done ?_)))
 exact WC.ret fun w hw => rq_ r h hF hw
theorem gA {gq : Nat} {eq : Nat × Nat} {rowq : Rowb} {q : a6} (hq : a6.ob eq Γ gq rowq q) (hqr : ∀ p ∈ rowq, Γ p.1 = some p.2) (x_ : ak) (hx_ : ak.fits Γ  x_) (hs : Sat Γ w0) {r : Bool} (h : bx q x_ = some r) : CQ Tryz.prog 34 #[(pq gq), .iface 107 (.agg (ak.cs x_).toArray)] w0 (.bool r) := by
 refine goQ [4] func34 ntmps34 results34 hs fun F hF => ?_
 refine WC.rs ?_
 refine bxV (v := (pq gq)) fun g1 => ?_
 refine aV (k:=WR.done (WC.seq (WC.rs (mU (v := .iface 107 (.agg (ak.cs x_).toArray)) (k:=WR.done (WC.block (WC.rs ?_)))))))
 refine sV (aH underlying98 zeroValue98 rfl rfl rfl) (k:=sV exV (k:=sV exV (k:=WR.done ?_)))
 refine WC.cfk (b := false) (by kernel_rfl) rfl ?_
 refine WC.rs (sV (aH underlying101 zeroValue101 rfl rfl rfl) (k:=sV exV (k:=sV exV (k:=WR.done ?_))))
 refine WC.cfk (b := false) (by kernel_rfl) rfl ?_
 refine WC.rs (sV (aH underlying166 zeroValue166 rfl rfl rfl) (k:=sV exV (k:=sV exV (k:=WR.done ?_))))
 refine WC.cfk (b := false) (by kernel_rfl) rfl ?_
 refine WC.rs (sV (dv underlying107 rfl rfl) (k:=sV exV (k:=sV exV (k:=WR.done ?_))))
 refine WC.ctk (b := true) (by kernel_rfl) rfl ?_
 refine WC.rs ?_
 refine alV zeroValue107 fun g2 => ?_
 refine stV 0 (.agg (ak.cs x_).toArray) (ak.cs x_).toArray sizeOf107 (k:=WR.done (WC.rs (sV (ldV 1 isAgg27) (k:=sV (q_fl 0 pK) (k:=sV (ldV 0 isAgg2) (k:=?_))))))
 obtain ⟨z3, hz4, h⟩ := bnd h
 refine vqV (caV call79) (fun w hw => kr (Γ := Gh.all w) (hq.mono hw.sat.le_all) (fun p hp => hw.sat _ _ (hqr p hp)) x_.sink hx_.1 (Sat.all w) hz4) (k:=mV (k:=vG1 (h:=fun hg5 => q_fl 1 pU) (k:=vG1 (h:=fun hg6 => ldV 0 isAgg2 (hx:=grV hg6)) (k:=vG1 (h:=fun hg7 => bB rfl (grV hg7)) (k:=sV pkA (k:=aV (k:=WR.done ?_)))))))
 exact WC.ret fun w hw => rq_ r h hF hw
theorem j0 {Ae_2 : Option Addr} {ce_2 : Nat} {Ae_3 : Option Addr} {ce_3 : Nat} (e_ : aB) (he_ : aB.fits Γ Ae_2 ce_2 Ae_3 ce_3 e_) {rowe_m : Rowb} {e_m : List (Int × Bool)} (he_m : MapO (intK underlying3) iW.v Γ rowe_m e_.want e_m) (he_mr : ∀ p ∈ rowe_m, Γ p.1 = some p.2) (hs : Sat Γ w0) {r : Bool} (h : lZ e_ e_m = some r) : CQ Tryz.prog 87 #[.agg (aB.cs Ae_2 ce_2 Ae_3 ce_3 e_).toArray] w0 (.bool r) := by
 refine goQ [2] func87 ntmps87 results87 hs fun F hF => ?_
 refine WC.rs ?_
 refine bxV (v := .agg (aB.cs Ae_2 ce_2 Ae_3 ce_3 e_).toArray) fun g1 => ?_
 refine aV (k:=WR.done (WC.rs (sV (q_fl 4 k9) (k:=sV (ldV 0 isAgg80) (k:=sV (uS (fun p hp => (he_mr p hp)) he_m rfl underlying80 rfl) (k:=sV bp (k:=aV (k:=?_))))))))
 refine WR.done ?_
 exact WC.ret fun w hw => rq_ r h hF hw
/-- the first place at which a list of truths is true, from i on; or -1 -/
def u1 (q : Nat → Bool) (n : Nat) : Option Int := forU (fun f i (_ : Unit) => bif q i then some (i : Int) else f ()) (fun _ => some (-1)) n 0 ()
theorem mw {q : Nat → Bool} : ∀ {m i : Nat} {r : Int}, forU (fun f i (_ : Unit) => bif q i then some (i : Int) else f ()) (fun _ => some (-1)) m i () = some r →
    (r = -1 ∧ ∀ j, i ≤ j → j < i + m → q j = false) ∨ ∃ k : Nat, r = (k : Int) ∧ i ≤ k ∧ k < i + m ∧ q k = true ∧ ∀ j, i ≤ j → j < k → q j = false
  | 0, i, r, h => by
    have h : (some (-1) : Option Int) = some r := h
    injection h with h
    exact .inl ⟨h.symm, fun j h1 h2 => by omega⟩
  | m + 1, i, r, h => by
    have h : (bif q i then some (i : Int) else forU (fun f i (_ : Unit) => bif q i then some (i : Int) else f ()) (fun _ => some (-1)) m (i + 1) ()) = some r := h
    cases hq : q i with
    | true =>
      rw [hq] at h
      have h : (some (i : Int)) = some r := h
      injection h with h
      exact .inr ⟨i, h.symm, Nat.le_refl _, by omega, hq, fun j h1 h2 => by omega⟩
    | false =>
      rw [hq] at h
      rcases mw (m := m) (i := i + 1) h with ⟨h1, h2⟩ | ⟨k, h1, h2, h3, h4, h5⟩
      · refine .inl ⟨h1, fun j h3 h4 => ?_⟩
        by_cases hj : j = i
        · rw [hj]; exact hq
        · exact h2 j (by omega) (by omega)
      · refine .inr ⟨k, h1, by omega, by omega, h4, fun j h6 h7 => ?_⟩
        by_cases hj : j = i
        · rw [hj]; exact hq
        · exact h5 j (by omega) h7
theorem qh (q : Nat → Bool) : ∀ (m i : Nat), ∃ r, forU (fun f i (_ : Unit) => bif q i then some (i : Int) else f ()) (fun _ => some (-1)) m i () = some r
  | 0, i => ⟨-1, rfl⟩
  | m + 1, i => by
    obtain ⟨r, hr⟩ := qh q m (i + 1)
    cases hq : q i with
    | true => exact ⟨(i : Int), by show (bif q i then _ else _) = _; rw [hq]; rfl⟩
    | false => exact ⟨r, by show (bif q i then _ else _) = _; rw [hq]; exact hr⟩
set_option maxRecDepth 100000 in
set_option maxHeartbeats 400000 in
theorem yn {Γ : Gh} {w0 : World} {A : Option Addr} {c : Nat} {ds : List aB} (hd : Sl ba Γ A ds) (hc : ds.length ≤ c) (q : Nat → Bool) (hq : ∀ i, i < ds.length → ∃ r m, MapO (intK Tryz.underlying3) iW.v Γ r (gt ds i).want m ∧ (∀ p ∈ r, Γ p.1 = some p.2) ∧ q i = ((m.length : Int) == 0)) (hs : Sat Γ w0) {r : Int} (h : u1 q ds.length = some r) : Calls Tryz.prog 144 #[.slice A ds.length c, .func (.func 87) #[] #[]] w0 (fun e w' => e = .returned (.int .i64 r) ∧ Fr no w0 w') := by
  refine oG (N := 19) (rs := [4]) (args := [.slice A ds.length c, .func (.func 87) #[] #[]]) Tryz.func144 rfl Tryz.ntmps144 Tryz.results144 rfl ?_
  obtain ⟨F, hF⟩ : ∃ F : Fm, F = ⟨no, w0, Γ⟩ := ⟨_, rfl⟩
  refine WC.here (C := CC F Γ []) ?_ (hF ▸ Cur.start0 hs)
  refine WC.rs ?_
  refine va rfl rfl rfl (ck (v := .int .i64 0) rfl (by kernel_rfl)) ?_
  refine WR.nil ?_
  change WC _ _ _ _ _ _
  refine WC.seq ?_
  refine WC.rs ?_
  refine va rfl rfl rfl (ay (v := .slice A ds.length c) rfl (by kernel_rfl)) ?_
  refine va rfl rfl rfl (ab rfl Tryz.underlying82 rfl) ?_
  refine va rfl rfl rfl (ay (v := .int .i64 0) rfl (by kernel_rfl)) ?_
  refine WR.nil ?_
  change WC _ _ _ _ _ _
  refine WC.block ?_
  unfold u1 at h
  refine WC.forU h (fun (i2 : Nat) (s : Unit) σ w => match s with | () => slots σ [(0, .slice A ds.length c), (1, .func (.func 87) #[] #[]), (7, .int .i64 (ds.length : Int)), (8, .int .i64 (i2 : Int))] ∧ CC F Γ [] w ∧ True) ?_ ?_
  · skip
    intro w hw
    exact ⟨(sl_ (by kernel_rfl)), hw, trivial⟩
  rintro f1 i2 ⟨⟩ σ w hi3 hlt4 hge5 ⟨hsl, hw, -⟩
  refine Wpt.slots hsl ?_
  refine WC.here (C := CC F Γ []) ?_ hw
  clear hw hsl
  refine WC.rs ?_
  refine va rfl rfl rfl (aS rfl rfl rfl) ?_
  refine WR.nil ?_
  change WC _ _ _ _ _ _
  refine WC.seq ?_
  refine WC.cond (b := (decide ((i2 : Int) < (ds.length : Int)))) (by kernel_rfl) (fun hb6 => ?_) (fun hb6 => ?_)
  · skip
    have hl7 := ilt hb6
    have h := hlt4 hl7
    refine WC.skip ?_
    change WC _ _ _ _ _ _
    refine WC.seq ?_
    refine WC.block ?_
    refine WC.rs ?_
    refine va rfl rfl rfl (ay (v := .int .i64 (i2 : Int)) rfl (by kernel_rfl)) ?_
    refine va rfl rfl rfl (ck (v := .int .i64 (i2 : Int)) rfl (by kernel_rfl)) ?_
    refine WR.nil ?_
    change WC _ _ _ _ _ _
    refine WC.rs ?_
    refine va rfl rfl rfl (ay (v := .func (.func 87) #[] #[]) rfl (by kernel_rfl)) ?_
    refine va rfl rfl rfl (ay (v := .slice A ds.length c) rfl (by kernel_rfl)) ?_
    refine va rfl rfl rfl (ay (v := .int .i64 (i2 : Int)) rfl (by kernel_rfl)) ?_
    refine va rfl rfl rfl (bb (i := i2) Tryz.underlying82 Tryz.sizeOf104 rfl rfl rfl hl7 (hd.some_ hl7)) ?_
    obtain ⟨Ad2, cd2, Ad3, cd3, hx⟩ := hd.dqueue_entryT_at i2
    refine va rfl rfl rfl (gY (c := 0) (vs := [.int .i64 (gt ds i2).entry.seq, .string (gt ds i2).entry.rec_.key, .slice Ad2 (gt ds i2).entry.rec_.vers.length cd2, .slice Ad3 (gt ds i2).entry.route.length cd3, .map (some (gt ds i2).want)]) (hx hl7).2 rfl Tryz.isAgg104 Tryz.sizeOf104 rfl rfl rfl) ?_
    obtain ⟨rr, m, hm, hrr, hqi⟩ := hq i2 hl7
    refine vc rfl rfl rfl (bl (ee (caps := #[]) Tryz.call87 rfl (by kernel_rfl) (by kernel_rfl)) (fun w hw => j0 (Γ := Gh.all w) (gt ds i2) (aB.fits_mono (hx hl7).1 hw.sat.le_all) (hm.mono hw.sat.le_all) (fun p hp => hw.sat.le_all _ _ (hrr p hp)) (Sat.all w) (r := q i2) (by rw [hqi]; rfl))) ?_
    refine WR.nil ?_
    change WC _ _ _ _ _ _
    refine WC.cif h (by kernel_rfl) (fun hb8 h => ?_) (fun hb8 h => ?_)
    · skip
      refine WC.rs ?_
      refine va rfl rfl rfl (ay (v := .int .i64 (i2 : Int)) rfl (by kernel_rfl)) ?_
      refine va rfl rfl rfl (ck (v := .int .i64 (i2 : Int)) rfl (by kernel_rfl)) ?_
      refine WR.nil ?_
      change WC _ _ _ _ _ _
      refine WC.ret ?_
      intro w hw
      obtain rfl := Option.some.inj h
      subst hF
      exact ⟨by kernel_rfl, hw.fr⟩
    · skip
      refine WC.skip ?_
      change WC _ _ _ _ _ _
      refine WC.region ?_
      refine va rfl rfl rfl (aC (r := ((i2 + 1 : Nat) : Int)) rfl rfl rfl (aP hl7 hd.le)) ?_
      refine va rfl rfl rfl (ay (v := .int .i64 ((i2 + 1 : Nat) : Int)) rfl (by kernel_rfl)) ?_
      refine WR.nil ?_
      intro w hw
      exact ⟨hl7, (), h, (sl_ (by kernel_rfl)), hw, trivial⟩
  · skip
    have h := hge5 (ige hb6)
    refine WC.exit ?_
    change WC _ _ _ _ _ _
    refine WC.rs ?_
    refine va rfl rfl rfl (ck (v := .int .i64 (-1)) rfl (by kernel_rfl)) ?_
    refine WR.nil ?_
    change WC _ _ _ _ _ _
    refine WC.ret ?_
    intro w hw
    obtain rfl := Option.some.inj h
    subst hF
    exact ⟨by kernel_rfl, hw.fr⟩
theorem Cd (n : Nat) : ((n : Int) == 0) = (n == 0) := by
  rw [Bool.eq_iff_iff]; simp
def kp86 (t : MGR az) : Bool := !(t.1.want.length == 0)
/-- behind one more element: what is kept -/
theorem mj {ts : List (MGR az)} {j : Nat} (hj : j < ts.length) : (ts.take (j + 1)).filter kp86 = (ts.take j).filter kp86 ++ (bif kp86 ts[j] then [ts[j]] else []) := by
  rw [List.take_succ_eq_append_getElem hj, List.filter_append]
  congr 1
  all_goals (cases h : kp86 ts[j] <;> simp [h])
set_option maxRecDepth 100000 in
set_option maxHeartbeats 1000000 in
theorem tC {Γ : Gh} {w0 : World} {row : Rowb} {A : Option Addr} {c : Nat} {xs : List az} (hl : LM aK ba (intK Tryz.underlying3) iW.v Γ 104 row A c xs) (hp : Pre [row] Γ w0) : Calls Tryz.prog 86 #[.slice A xs.length c, .func (.func 87) #[] #[]] w0 (Outc Γ [row] w0 (fun U Δ v => ∃ row', v = .slice A (List.filter (fun x => !(x.want.length == 0)) xs).length c ∧ U = [row'] ∧ LM aK ba (intK Tryz.underlying3) iW.v Δ 104 row' A c (List.filter (fun x => !(x.want.length == 0)) xs) ∧ True)) := by
  obtain ⟨ts, rowL, jk, ho, hrow, hmap, rfl⟩ := hl.is
  obtain ⟨ds, hds⟩ : ∃ ds, ds = dsof aK ts := ⟨_, rfl⟩
  rw [← hds] at ho
  have hdl : ds.length = ts.length := by rw [hds]; simp [dsof]
  have hlen : (List.map (fun x => x.1) ts).length = ds.length := by rw [hdl]; simp
  have hdg : ∀ i (hi : i < ts.length), gt ds i = aK.mkd ts[i].1 ts[i].2.1 := fun i hi => by rw [bz (by rw [hdl]; exact hi)]; simp [hds, dsof]
  have hfil : List.filter (fun x => !(x.want.length == 0)) (List.map (fun x => x.1) ts) = (ts.filter kp86).map (·.1) := by rw [List.filter_map]; rfl
  have hcap : ds.length ≤ c := ho.capz
  have hlim := ho.le
  rw [hfil, hlen]
  let q : Nat → Bool := fun i => match ts[i]? with
    | some t => !(kp86 t)
    | none => true
  have hqt : ∀ i (hi : i < ts.length), q i = !(kp86 ts[i]) := fun i hi => by show (match ts[i]? with | some t => !(kp86 t) | none => true) = _; rw [List.getElem?_eq_getElem hi]
  have hq : ∀ (F : Fm) (rw_ : Rowb) w, Cur F Γ [rw_, rsof ts ++ jk] w → ∀ i, i < ds.length → ∃ r m, MapO (intK Tryz.underlying3) iW.v (Gh.all w) r (gt ds i).want m ∧ (∀ p ∈ r, Gh.all w p.1 = some p.2) ∧ q i = ((m.length : Int) == 0) := by
    intro F rw_ w hw i hi
    have hi2 : i < ts.length := by rw [← hdl]; exact hi
    refine ⟨ts[i].2.2, ts[i].1.want, ?_, fun p hp => hw.ra 1 rfl p (List.mem_append.2 (.inl (List.mem_flatten.2 ⟨_, List.mem_map.2 ⟨ts[i], List.getElem_mem hi2, rfl⟩, hp⟩))), ?_⟩
    · rw [hdg i hi2]; exact (hmap _ (List.getElem_mem hi2)).mono hw.sat.le_all
    · rw [hqt i hi2, Cd]; simp [kp86]
  refine oG (N := 42) (rs := [4]) (args := [.slice A ds.length c, .func (.func 87) #[] #[]]) Tryz.func86 rfl Tryz.ntmps86 Tryz.results86 rfl ?_
  obtain ⟨F, hF⟩ : ∃ F : Fm, F = ⟨ids [row], w0, Γ⟩ := ⟨_, rfl⟩
  refine WC.here (C := CC F Γ [rowL, rsof ts ++ jk]) ?_ (by have hw := hF ▸ hp.start; have hw := hw.unfold (U := [rowL, rsof ts ++ jk]) (i := 0) rfl (by rw [hrow]; simp); exact hw)
  refine WC.rs ?_
  refine va rfl rfl rfl (ck (v := .slice none 0 0) rfl (by kernel_rfl)) ?_
  refine WR.nil ?_
  change WC _ _ _ _ _ _
  refine WC.rs ?_
  refine va rfl rfl rfl (ay (v := .slice A ds.length c) rfl (by kernel_rfl)) ?_
  refine va rfl rfl rfl (ay (v := .func (.func 87) #[] #[]) rfl (by kernel_rfl)) ?_
  obtain ⟨z, hz⟩ := qh q ds.length 0
  refine vc rfl rfl rfl (bl (aR Tryz.call144 rfl rfl (by kernel_rfl)) (fun w hw => yn (Γ := Gh.all w) (ho.sl hw.sat.le_all (hw.ra 0 rfl)) hcap q (hq F rowL w hw) (Sat.all w) hz)) ?_
  refine va rfl rfl rfl (ck (v := .int .i64 z) rfl (by kernel_rfl)) ?_
  refine WR.nil ?_
  change WC _ _ _ _ _ _
  refine WC.seq ?_
  refine WC.rs ?_
  refine va rfl rfl rfl (ay (v := .int .i64 z) rfl (by kernel_rfl)) ?_
  refine va rfl rfl rfl (bp rfl rfl rfl) ?_
  refine WR.nil ?_
  change WC _ _ _ _ _ _
  have hfin : ∀ (F : Fm) (hF : F = ⟨ids [row], w0, Γ⟩) (rowX : Rowb) (us vs : List (MGR az)) w, OwnV ba Γ 104 rowX A c (dsof aK us) → us = ts.filter kp86 → (us ++ vs).Perm ts → Cur F Γ [rowX, rsof ts ++ jk] w → Outc Γ [row] w0 (fun U Δ v => ∃ row', v = .slice A ((ts.filter kp86).map (·.1)).length c ∧ U = [row'] ∧ LM aK ba (intK Tryz.underlying3) iW.v Δ 104 row' A c ((ts.filter kp86).map (·.1)) ∧ True) (.returned (.slice A (dsof aK us).length c)) w := by
    intro F hF rowX us vs w hX hus hpm hw
    obtain ⟨row', h1, h2⟩ := LM.keep (jk := jk) hX hpm hmap
    have hw := hw.fold (is := [0, 0]) rfl (row := rowX ++ (rsof ts ++ jk)) (by simp [pkU])
    have hw := Cur.reorder hw (i := 0) rfl h1
    subst hF
    exact aO (is := [0]) (by kernel_rfl) hw rfl ⟨row', (show Value.slice A (dsof aK us).length c = .slice A ((ts.filter kp86).map (·.1)).length c by rw [hus]; simp [dsof]), rfl, by rw [← hus]; exact h2, trivial⟩
  refine WC.cond (b := (z == (-1))) (by kernel_rfl) (fun hb => ?_) (fun hb => ?_)
  · skip
    have hz1 : z = -1 := by simpa using hb
    have hall : ∀ j, j < ds.length → q j = false := by
      rcases mw hz with ⟨_, h2⟩ | ⟨k, h1, _⟩
      · exact fun j hj => h2 j (by omega) (by omega)
      · omega
    have hself : ts.filter kp86 = ts := by
      rw [List.filter_eq_self]
      intro t ht
      obtain ⟨i, hi, rfl⟩ := List.getElem_of_mem ht
      have := hall i (by rw [hdl]; exact hi)
      rw [hqt i hi] at this
      simpa using this
    refine WC.rs ?_
    refine va rfl rfl rfl (ay (v := .slice A ds.length c) rfl (by kernel_rfl)) ?_
    refine va rfl rfl rfl (ck (v := .slice A ds.length c) rfl (by kernel_rfl)) ?_
    refine WR.nil ?_
    change WC _ _ _ _ _ _
    refine WC.ret ?_
    intro w hw
    have h1 := hfin F hF rowL ts [] w (by rw [← hds]; exact ho) hself.symm (by simp) hw
    rw [← hds] at h1
    exact h1
  · skip
    obtain ⟨k, hk1, hk2, hk3, hk4⟩ : ∃ k : Nat, z = (k : Int) ∧ k < ds.length ∧ q k = true ∧ ∀ j, j < k → q j = false := by
      rcases mw hz with ⟨h1, _⟩ | ⟨k, h1, h2, h3, h4, h5⟩
      · rw [h1] at hb; cases hb
      · exact ⟨k, h1, by omega, h4, fun j hj => h5 j (by omega) hj⟩
    subst hk1
    refine WC.skip ?_
    change WC _ _ _ _ _ _
    refine WC.seq ?_
    refine WC.rs ?_
    refine va rfl rfl rfl (ay (v := .int .i64 (k : Int)) rfl (by kernel_rfl)) ?_
    refine va rfl rfl rfl (aC (r := ((k + 1 : Nat) : Int)) rfl rfl rfl (aP hk2 hlim)) ?_
    refine va rfl rfl rfl (ck (v := .int .i64 ((k + 1 : Nat) : Int)) rfl (by kernel_rfl)) ?_
    refine WR.nil ?_
    change WC _ _ _ _ _ _
    refine WC.block ?_
    have hk0 : (ts.take k).filter kp86 = ts.take k := by
      rw [List.filter_eq_self]
      intro t ht
      obtain ⟨i, hi, rfl⟩ := List.getElem_of_mem ht
      have hi2 : i < k ∧ i < ts.length := by simpa [Nat.lt_min] using hi
      have := hk4 i hi2.1
      rw [hqt i hi2.2] at this
      simpa using this
    have hkt : k < ts.length := by rw [← hdl]; exact hk2
    have hkk : (ts.take (k + 1)).filter kp86 = ts.take k := by
      rw [mj hkt, hk0]
      have := hk3
      rw [hqt k hkt] at this
      have h9 : kp86 ts[k] = false := by simpa using this
      rw [h9]; simp
    refine WC.loop (fun m σ w => ∃ (j i : Nat) (es : List aB) (rowX : Rowb), m = ds.length - j ∧ j ≤ ds.length ∧ i < j ∧ i = ((ts.take j).filter kp86).length ∧ es.length = ds.length ∧ es.take i = dsof aK ((ts.take j).filter kp86) ∧ es.drop j = ds.drop j ∧ slots σ [(0, .slice A ds.length c), (1, .func (.func 87) #[] #[]), (5, .int .i64 (i : Int)), (6, .int .i64 (j : Int))] ∧ CC F Γ [rowX, rsof ts ++ jk] w ∧ OwnV ba Γ 104 rowX A c es) ?_ ?_
    · skip
      intro w hw
      refine ⟨_, k + 1, k, ds, rowL, rfl, hk2, Nat.lt_succ_self k, ?_, rfl, ?_, rfl, (sl_ (by kernel_rfl)), hw, ho⟩
      · rw [hkk]; simp; omega
      · rw [hkk, hds]; simp [dsof, List.map_take]
    rintro m σ w ⟨j, i, es, rowX, rfl, hjn, hij, hi, hel, het, hed, hsl, hw, hoX⟩
    refine Wpt.slots hsl ?_
    refine WC.here (C := CC F Γ [rowX, rsof ts ++ jk]) ?_ hw
    clear hw hsl
    refine WC.seq ?_
    refine WC.rs ?_
    refine va rfl rfl rfl (ay (v := .int .i64 (j : Int)) rfl (by kernel_rfl)) ?_
    refine va rfl rfl rfl (ay (v := .slice A ds.length c) rfl (by kernel_rfl)) ?_
    refine va rfl rfl rfl (ab rfl Tryz.underlying82 rfl) ?_
    refine va rfl rfl rfl (aS rfl rfl rfl) ?_
    refine WR.nil ?_
    change WC _ _ _ _ _ _
    refine WC.cond (b := (decide ((j : Int) < (ds.length : Int)))) (by kernel_rfl) (fun hb6 => ?_) (fun hb6 => ?_)
    · skip
      have hl7 := ilt hb6
      have hjt : j < ts.length := by rw [← hdl]; exact hl7
      have hje : j < es.length := by rw [hel]; exact hl7
      have hgj : gt es j = gt ds j := by
        rw [bz hje, bz hl7]
        have h1 : (es.drop j)[0]? = (ds.drop j)[0]? := by rw [hed]
        simp only [List.getElem?_drop, Nat.add_zero] at h1
        rw [List.getElem?_eq_getElem hje, List.getElem?_eq_getElem hl7] at h1
        exact Option.some.inj h1
      refine WC.skip ?_
      change WC _ _ _ _ _ _
      refine WC.seq ?_
      refine WC.block ?_
      refine WC.rs ?_
      refine va rfl rfl rfl (ay (v := .slice A ds.length c) rfl (by kernel_rfl)) ?_
      refine va rfl rfl rfl (ay (v := .int .i64 (j : Int)) rfl (by kernel_rfl)) ?_
      refine va rfl rfl rfl (bb (i := j) Tryz.underlying82 Tryz.sizeOf104 rfl rfl rfl hl7 (hoX.some_ hje)) ?_
      obtain ⟨cs, ⟨Ad2, cd2, Ad3, cd3, rfl, hx⟩, hC⟩ := hoX.get hje
      refine va rfl rfl rfl (vC (c := 0) (vs := [.int .i64 (gt es j).entry.seq, .string (gt es j).entry.rec_.key, .slice Ad2 (gt es j).entry.rec_.vers.length cd2, .slice Ad3 (gt es j).entry.route.length cd3, .map (some (gt es j).want)]) (i := 0) rfl (fun p hp => hp) hC rfl Tryz.isAgg104 Tryz.sizeOf104 rfl rfl) ?_
      refine wy Tryz.zeroValue104 rfl rfl rfl rfl ?_
      intro gb
      refine e_st (i := 0) (v := .agg #[.int .i64 (gt es j).entry.seq, .string (gt es j).entry.rec_.key, .slice Ad2 (gt es j).entry.rec_.vers.length cd2, .slice Ad3 (gt es j).entry.route.length cd3, .map (some (gt es j).want)]) (new := #[.int .i64 (gt es j).entry.seq, .string (gt es j).entry.rec_.key, .slice Ad2 (gt es j).entry.rec_.vers.length cd2, .slice Ad3 (gt es j).entry.route.length cd3, .map (some (gt es j).want)]) rfl Tryz.sizeOf104 rfl rfl rfl rfl (by kernel_rfl) rfl rfl rfl rfl ?_
      refine WR.nil ?_
      change WC _ _ _ _ _ _
      refine WC.rs ?_
      refine va rfl rfl rfl (ay (v := .func (.func 87) #[] #[]) rfl (by kernel_rfl)) ?_
      refine va rfl rfl rfl (v8 (i := 0) (vs := [.int .i64 (gt es j).entry.seq, .string (gt es j).entry.rec_.key, .slice Ad2 (gt es j).entry.rec_.vers.length cd2, .slice Ad3 (gt es j).entry.route.length cd3, .map (some (gt es j).want)]) rfl rfl Tryz.isAgg104 Tryz.sizeOf104 rfl rfl) ?_
      have hcall : ∀ w, Cur F Γ [[(gb, .cells #[.int .i64 (gt es j).entry.seq, .string (gt es j).entry.rec_.key, .slice Ad2 (gt es j).entry.rec_.vers.length cd2, .slice Ad3 (gt es j).entry.route.length cd3, .map (some (gt es j).want)] 104 (0, 0))], rowX, rsof ts ++ jk] w → Calls Tryz.prog 87 #[.agg #[.int .i64 (gt es j).entry.seq, .string (gt es j).entry.rec_.key, .slice Ad2 (gt es j).entry.rec_.vers.length cd2, .slice Ad3 (gt es j).entry.route.length cd3, .map (some (gt es j).want)]] w fun e w' => e = .returned (.bool (q j)) ∧ Fr no w w' := by
        intro w hw
        obtain ⟨rr, m, hm, hrr, hqi⟩ := hq F rowX w (hw.sub (List.sublist_cons_self _ _)) j hl7
        rw [← hgj] at hm
        exact j0 (Γ := Gh.all w) (gt es j) (aB.fits_mono hx hw.sat.le_all) hm hrr (Sat.all w) (r := q j) (by rw [hqi]; rfl)
      refine vc rfl rfl rfl (bl (ee (caps := #[]) Tryz.call87 rfl (by kernel_rfl) (by kernel_rfl)) hcall) ?_
      refine va rfl rfl rfl (bu rfl rfl) ?_
      refine WR.nil ?_
      change WC _ _ _ _ _ _
      have hqj := hqt j hjt
      refine WC.cond (b := (!(q j))) (by kernel_rfl) (fun hb8 => ?_) (fun hb8 => ?_)
      · skip
        have hkj : kp86 ts[j] = true := by rw [hqj] at hb8; simpa using hb8
        have hie : i < es.length := by omega
        refine WC.rs ?_
        refine va rfl rfl rfl (ay (v := .slice A ds.length c) rfl (by kernel_rfl)) ?_
        refine va rfl rfl rfl (ay (v := .int .i64 (i : Int)) rfl (by kernel_rfl)) ?_
        refine va rfl rfl rfl (v8 (i := 0) (vs := [.int .i64 (gt es j).entry.seq, .string (gt es j).entry.rec_.key, .slice Ad2 (gt es j).entry.rec_.vers.length cd2, .slice Ad3 (gt es j).entry.route.length cd3, .map (some (gt es j).want)]) rfl rfl Tryz.isAgg104 Tryz.sizeOf104 rfl rfl) ?_
        refine va rfl rfl rfl (bb (i := i) Tryz.underlying82 Tryz.sizeOf104 rfl rfl rfl (by omega) (hoX.some_ hje)) ?_
        refine x7 (T := ba) (q := i) (v := .agg #[.int .i64 (gt es j).entry.seq, .string (gt es j).entry.rec_.key, .slice Ad2 (gt es j).entry.rec_.vers.length cd2, .slice Ad3 (gt es j).entry.route.length cd3, .map (some (gt es j).want)]) (y := gt es j) rfl rfl rfl rfl rfl Tryz.sizeOf104 (by exact ⟨Ad2, cd2, Ad3, cd3, rfl, hx⟩) (i := 1) rfl hoX hie ?_
        intro rowY hoY
        refine WR.nil ?_
        change WC _ _ _ _ _ _
        refine WC.region ?_
        refine va rfl rfl rfl (ay (v := .int .i64 (i : Int)) rfl (by kernel_rfl)) ?_
        refine va rfl rfl rfl (aC (r := ((i + 1 : Nat) : Int)) rfl rfl rfl (aP (n := ds.length) (by omega) hlim)) ?_
        refine va rfl rfl rfl (ck (v := .int .i64 ((i + 1 : Nat) : Int)) rfl (by kernel_rfl)) ?_
        refine WR.nil ?_
        change WC _ _ _ _ _ _
        refine WC.region ?_
        refine va rfl rfl rfl (ay (v := .int .i64 (j : Int)) rfl (by kernel_rfl)) ?_
        refine va rfl rfl rfl (aC (r := ((j + 1 : Nat) : Int)) rfl rfl rfl (aP hl7 hlim)) ?_
        refine va rfl rfl rfl (ck (v := .int .i64 ((j + 1 : Nat) : Int)) rfl (by kernel_rfl)) ?_
        refine WR.nil ?_
        intro w hw
        have hks := mj hjt
        rw [hkj] at hks
        refine ⟨ds.length - (j + 1), by omega, j + 1, i + 1, es.set i (gt es j), rowY, rfl, hl7, by omega, ?_, by simpa using hel, ?_, ?_, (sl_ (by kernel_rfl)), hw.only (is := [1, 1]) rfl, hoY⟩
        · rw [hks, List.length_append, ← hi]; rfl
        · rw [hks]
          have h1 : (es.set i (gt es j)).take (i + 1) = es.take i ++ [gt es j] := by
            rw [List.take_succ_eq_append_getElem (by simpa using hie), List.take_set_of_le (Nat.le_refl i)]
            simp
          rw [h1, het, hgj, hdg j hjt]
          simp [dsof]
        · rw [List.drop_set_of_lt (by omega)]
          have h2 := congrArg (List.drop 1) hed
          simpa [List.drop_drop, Nat.add_comm] using h2
      · skip
        have hkj : kp86 ts[j] = false := by rw [hqj] at hb8; simpa using hb8
        refine WC.skip ?_
        change WC _ _ _ _ _ _
        refine WC.region ?_
        refine va rfl rfl rfl (ay (v := .int .i64 (j : Int)) rfl (by kernel_rfl)) ?_
        refine va rfl rfl rfl (aC (r := ((j + 1 : Nat) : Int)) rfl rfl rfl (aP hl7 hlim)) ?_
        refine va rfl rfl rfl (ck (v := .int .i64 ((j + 1 : Nat) : Int)) rfl (by kernel_rfl)) ?_
        refine WR.nil ?_
        intro w hw
        have hks := mj hjt
        rw [hkj] at hks
        have hks : (ts.take (j + 1)).filter kp86 = (ts.take j).filter kp86 := by rw [hks]; simp
        refine ⟨ds.length - (j + 1), by omega, j + 1, i, es, rowX, rfl, hl7, by omega, by rw [hks]; exact hi, hel, by rw [hks]; exact het, ?_, (sl_ (by kernel_rfl)), hw.only (is := [1, 1]) rfl, hoX⟩
        have h2 := congrArg (List.drop 1) hed
        simpa [List.drop_drop, Nat.add_comm] using h2
    · skip
      have hjn2 : j = ds.length := by have := ige hb6; omega
      have htk : ts.take j = ts := List.take_of_length_le (by omega)
      rw [htk] at hi het
      have hX := hoX.cut_to (hi := i) (by omega)
      rw [het] at hX
      have hul : (dsof aK (ts.filter kp86)).length = i := by rw [hi]; simp [dsof]
      refine WC.exit ?_
      change WC _ _ _ _ _ _
      refine WC.rs ?_
      refine va rfl rfl rfl (ay (v := .slice A ds.length c) rfl (by kernel_rfl)) ?_
      refine va rfl rfl rfl (ay (v := .int .i64 (i : Int)) rfl (by kernel_rfl)) ?_
      refine va rfl rfl rfl (ly (c := c) (lo := i) (xs := ds) Tryz.underlying82 Tryz.sizeOf104 rfl rfl rfl (by omega)) ?_
      refine wH (T := ba) (i := 0) (xs := dsof aK (ts.filter kp86)) (m := ds.length) Tryz.underlying82 Tryz.zeroValue104 rfl (fun u hu => by revert u hu; decide) rfl rfl rfl (by rw [hul]; simp only [List.length_drop]; rfl) (by omega) hcap rfl hX ?_
      intro rowY hY
      refine WR.nil ?_
      change WC _ _ _ _ _ _
      refine WC.rs ?_
      refine va rfl rfl rfl (ay (v := .slice A ds.length c) rfl (by kernel_rfl)) ?_
      refine va rfl rfl rfl (ay (v := .int .i64 (i : Int)) rfl (by kernel_rfl)) ?_
      refine va rfl rfl rfl (mF (c := c) (hi := i) (xs := ds) Tryz.underlying82 Tryz.sizeOf104 rfl rfl rfl (by omega) hcap) ?_
      refine va rfl rfl rfl (ck (v := .slice A (List.take i ds).length c) rfl (by kernel_rfl)) ?_
      refine WR.nil ?_
      change WC _ _ _ _ _ _
      refine WC.ret ?_
      intro w hw
      have h1 := hfin F hF rowY (ts.filter kp86) (ts.filter (fun t => !(kp86 t))) w hY rfl (List.filter_append_perm _ _) hw
      have h2 : (dsof aK (ts.filter kp86)).length = (List.take i ds).length := by rw [hul, List.length_take]; omega
      rw [h2] at h1
      exact h1

abbrev lI (gq : Nat) (eq : Nat × Nat) (r : a6) (U : List Rowb) (Γ : Gh) (v : Value) : Prop := ∃ (rowq' : Rowb), v = .tuple #[] ∧ U = [rowq'] ∧ a6.ob eq Γ gq rowq' r ∧ True
theorem bT {gq : Nat} {eq : Nat × Nat} {rowq : Rowb} {q : a6} (hq : a6.ob eq Γ gq rowq q) (x_ : ak) (hx_ : ak.fits Γ  x_) (hp : Pre [rowq] Γ w0) {r : a6} (h : aL q x_ = some r) : Calls Tryz.prog 35 #[(pq gq), .iface 107 (.agg (ak.cs x_).toArray)] w0 (Outc Γ [rowq] w0 (lI gq eq r)) := by
 refine goV [] func35 ntmps35 results35 hp fun F hF => ?_
 refine WC.rs (mU (v := .iface 107 (.agg (ak.cs x_).toArray)) (k:=WR.done (WC.block (WC.rs (sV (aH underlying98 zeroValue98 rfl rfl rfl) (k:=sV exV (k:=sV exV (k:=?_))))))))
 refine WR.done ?_
 refine WC.cfk (b := false) (by kernel_rfl) rfl ?_
 refine WC.rs (sV (aH underlying101 zeroValue101 rfl rfl rfl) (k:=sV exV (k:=sV exV (k:=WR.done ?_))))
 refine WC.cfk (b := false) (by kernel_rfl) rfl ?_
 refine WC.rs (sV (aH underlying166 zeroValue166 rfl rfl rfl) (k:=sV exV (k:=sV exV (k:=WR.done ?_))))
 refine WC.cfk (b := false) (by kernel_rfl) rfl ?_
 refine WC.rs (sV (dv underlying107 rfl rfl) (k:=sV exV (k:=sV exV (k:=WR.done ?_))))
 refine WC.ctk (b := true) (by kernel_rfl) rfl ?_
 refine WC.rs ?_
 refine alV zeroValue107 fun g1 => ?_
 refine stV 0 (.agg (ak.cs x_).toArray) (ak.cs x_).toArray sizeOf107 (k:=WR.done (WC.seq (WC.rs (mV (k:=sV nlV (k:=sV (q_fl 9 dD) (k:=?_)))))))
 obtain ⟨A2_2, c2_2, A5_2, c5_2, g6_2, r6_2, A7_2, c7_2, A8_2, A9_2, c9_2, r9_2, m11_2, r11_2, A12_2, c12_2, hrow_2, ho0_2, ho1_2, ho2_2, ho3_2, ho4_2, ho5_2, ho6_2, ho7_2, ho8_2, ho9_2, ho10_2, ho11_2, ho12_2, ho13_2, ho14_2, ho15_2, ho16_2, -⟩ := id hq
 refine ufR 1 hrow_2 [_, _, _, _, _] ?_
 refine sV (ldV 0 isAgg82) (k:=?_)
 have hlen3 : q.list.length ≤ lim := ho12_2.le
 refine sV (ab rfl underlying82) (k:=mV (k:=WR.done (WC.block ?_)))
 refine foC [0, 0, 0, 0] hrow_2 [_, _] ?_
 refine WC.forU h (fun (i9 : Nat) (o5 : a6) σ w => ∃ (row6 : Rowb), slots σ [(0, (pq gq)), (7, (pq g1)), (76, ii (q.list.length : Int)), (77, ii (i9 : Int))] ∧ CC F Γ [row6, [(g1, .cells (ak.cs x_).toArray 107 (0, 0))]] w ∧ a6.ob eq Γ gq row6 o5 ∧ True) ?_ ?_
 ·
  intro w hw
  exact ⟨rowq, slK, hw, hq, trivial⟩
 rintro f8 i9 o5 σ w hi10 hlt11 hge12 ⟨row6, hsl, hw, ho7, -⟩
 refine slV hsl hw [_, _] ?_; clear hw hsl
 refine WC.rs (sV aS (k:=WR.done (WC.seq ?_)))
 refine coV (fun hb13 => ?_) (fun hb13 => ?_)
 ·
  have hl14 := ilt hb13
  have h := hlt11 hl14
  refine WC.skip (wc_ ?_)
  refine WC.cut (fun σ w => ∃ (o15 : a6), ∃ (row16 : Rowb), cO f8 o15 = some r ∧ slots σ [(0, (pq gq)), (7, (pq g1)), (76, ii (q.list.length : Int)), (77, ii (i9 : Int))] ∧ CC F Γ [row16, [(g1, .cells (ak.cs x_).toArray 107 (0, 0))]] w ∧ a6.ob eq Γ gq row16 o15 ∧ True) ?_ ?_
  ·
   refine WC.block (WC.rs (mV (k:=aV (k:=WR.done (WC.seq ?_)))))
   obtain ⟨A2_18, c2_18, A5_18, c5_18, g6_18, r6_18, A7_18, c7_18, A8_18, A9_18, c9_18, r9_18, m11_18, r11_18, A12_18, c12_18, hrow_18, ho0_18, ho1_18, ho2_18, ho3_18, ho4_18, ho5_18, ho6_18, ho7_18, ho8_18, ho9_18, ho10_18, ho11_18, ho12_18, ho13_18, ho14_18, ho15_18, ho16_18, -⟩ := id ho7
   refine ufC 0 hrow_18 [_, _, _, _, _] ?_
   refine drV ?_
   refine zV moV (k:=zV nlV (k:=zV (q_fl 9 dD) (k:=zV (ldV 0 isAgg82) (k:=zV moV (k:=?_)))))
   obtain ⟨hk19, h⟩ := ai h
   refine zV (bb (i := i9) underlying82 sizeOf104 rfl rfl rfl (of_decide_eq_true hk19) (ho12_18.some_ (of_decide_eq_true hk19))) (k:=zV (b6 (i9 * 5) lc rfl rfl (ho12_18.some_ (of_decide_eq_true hk19)) rfl) (k:=zV (b6 (i9 * 5) oc rfl rfl (ho12_18.some_ (of_decide_eq_true hk19)) rfl) (k:=?_)))
   obtain ⟨g_20, rL_20, rA_20, rM_20, rB_20, cs_20, hrow_20, hrd_20, hvc_20, hsub_20, hm_20, hback_20⟩ := LM.part ho12_18 (of_decide_eq_true hk19)
   obtain ⟨A_20_2, c_20_2, A_20_3, c_20_3, rfl, hrd_20⟩ := hrd_20
   have hs1_20 : ∀ p ∈ rL_20, p ∈ r9_18 := fun p hp => by rw [hrow_20]; exact List.mem_append.2 (.inl (hsub_20 p hp))
   have hs2_20 : ∀ p ∈ rM_20, p ∈ r9_18 := fun p hp => by rw [hrow_20]; exact List.mem_append.2 (.inr (List.mem_append.2 (.inl hp)))
   refine zV (yL (c := 0) (v := ii (gt o5.list i9).entry.seq) (i := 2) rfl hs1_20 hvc_20 rfl isAgg2 rfl rfl) (k:=zV (q_fl 1 pU) (k:=zV (ldV 4 isAgg2) (k:=zV bp (k:=?_))))
   refine WQ.nil ?_
   change WC _ _ _ _ _ _
   refine ciV h (fun hb21 h => ?_) (fun hb21 h => ?_)
   ·
    refine leV fun h022 => ?_
    refine eD (CC F Γ [[(gq, .cells #[ii o5.c_self, ii o5.c_sites, .slice A2_18 o5.c_links.length c2_18, ii o5.c_cap, ii o5.c_base, .slice A5_18 o5.c_members.length c5_18, (pq g6_18), .slice A7_18 o5.applied.length c7_18, .pointer A8_18, .slice A9_18 o5.list.length c9_18, ii o5.next, .map (some m11_18), .slice A12_18 o5.members.length c12_18] eq.1 (0, 0))], r6_18, r11_18, [(g1, .cells (ak.cs x_).toArray 107 (0, 0))]]) (bo_ [0, 0, 1, 1] gR h022) fun k => ?_
    change WH _ _ _ _ (CC F Γ [_, _, _, _, _]) _ 11 _ _
    refine hV 0 k (q:=moV) (k:=hV 1 k (q:=nlV) (k:=hV 2 k (q:=q_fl 9 dD) (k:=hV 3 k (q:=ldV 0 isAgg82) (k:=hV 4 k (q:=moV) (k:=hV 8 k (q:=q_fl 0 pK) (k:=hV 9 k (q:=ldV 3 isAgg2) (k:=wl_ 5 rfl ?_)))))))
    refine sV (bb (i := i9) underlying82 sizeOf104 rfl rfl rfl (of_decide_eq_true hk19) (ho12_18.some_ (of_decide_eq_true hk19))) (k:=?_)
    refine WR.nil (nxV (bo_ [0, 0, 1, 1] gR h022) fun k => ?_)
    refine wl_ 6 rfl (sV (b6 (i9 * 5 + 4) k9 rfl rfl (ho12_18.some_ (of_decide_eq_true hk19)) rfl) (k:=?_))
    refine WR.nil (nxV (bo_ [0, 0, 1, 1] gR h022) fun k => ?_)
    refine wl_ 7 rfl (sV (yL (c := 4) (v := .map (some g_20)) (i := 2) rfl hs1_20 hvc_20 rfl isAgg80 rfl rfl) (k:=?_))
    refine WR.nil (nxV (bo_ [0, 0, 1, 1] gR h022) fun k => ?_)
    refine wl_ 10 rfl ?_
    intro w hw; have hw := hw.unfold (U := [rA_20, rM_20, rB_20]) (i := 2) rfl (by rw [hrow_20]; simp)
    refine WR.here (C := CC F Γ [_, _, _, _, _, _, _]) ?_ hw
    clear hw
    refine qF (i := 1) (x := x_.sink) rfl hm_20 rfl rfl rfl underlying80 rfl rfl ?_
    intro row23 hm24
    refine WR.nil (nxV (bo_ [3, 3, 3, 3] gR h022) fun k => ?_)
    refine WH.done (by kernel_rfl) ?_
    intro w hw
    obtain ⟨row25, hrow26, hm27⟩ : ∃ rw : Rowb, rw = ([rA_20, row23, rB_20] : List Rowb).flatten ∧ LM aK ba (intK underlying3) iW.v Γ 104 rw A9_18 c9_18 (List.set o5.list i9 (aK.up (gt o5.list i9) (mdel x_.sink ((gt o5.list i9).want)))) := ⟨_, rfl, by simpa using hback_20 _ _ _ gR hm24⟩
    have hw := hw.fold (is := [0, 0, 0]) rfl hrow26
    obtain ⟨row_28, hrow_28, hob_28⟩ : ∃ rw : Rowb, rw = ([[(gq, .cells #[ii o5.c_self, ii o5.c_sites, .slice A2_18 o5.c_links.length c2_18, ii o5.c_cap, ii o5.c_base, .slice A5_18 o5.c_members.length c5_18, (pq g6_18), .slice A7_18 o5.applied.length c7_18, .pointer A8_18, .slice A9_18 o5.list.length c9_18, ii o5.next, .map (some m11_18), .slice A12_18 o5.members.length c12_18] eq.1 (0, 0))], r6_18, row25, r11_18] : List Rowb).flatten ∧ a6.ob eq Γ gq rw (⟨o5.c_self, o5.c_sites, o5.c_links, o5.c_cap, o5.c_base, o5.c_members, o5.log, o5.applied, o5.under, (List.set o5.list i9 (aK.up (gt o5.list i9) (mdel x_.sink ((gt o5.list i9).want)))), o5.next, o5.gaps, o5.members⟩ : a6) := ⟨_, rfl, A2_18, c2_18, A5_18, c5_18, g6_18, r6_18, A7_18, c7_18, A8_18, A9_18, c9_18, row25, m11_18, r11_18, A12_18, c12_18, (by simp only [show _ = _ from List.length_set]), ho0_18, ho1_18, ho2_18, ho3_18, ho4_18, ho5_18, ho6_18, ho7_18, ho8_18, ho9_18, ho10_18, ho11_18, hm27, ho13_18, ho14_18, ho15_18, ho16_18, trivial⟩
    have hw := hw.fold (is := [1, 1, 0, 0]) rfl hrow_28
    exact ⟨(⟨o5.c_self, o5.c_sites, o5.c_links, o5.c_cap, o5.c_base, o5.c_members, o5.log, o5.applied, o5.under, (List.set o5.list i9 (aK.up (gt o5.list i9) (mdel x_.sink ((gt o5.list i9).want)))), o5.next, o5.gaps, o5.members⟩ : a6), row_28, h, slK, hw, hob_28, trivial⟩
   refine WC.skip ?_
   intro w hw
   have hw := hw.fold (is := [0, 0, 0, 0]) rfl hrow_18
   exact ⟨o5, row6, h, slK, hw, ho7, trivial⟩
  rintro σ w ⟨o15, row16, h, hsl, hw, ho17, -⟩
  refine slV hsl hw [_, _] ?_; clear hw hsl
  refine WC.region ?_
  refine sV (aC rfl rfl rfl (aP hl14 hlen3)) (k:=mV (k:=?_))
  refine WR.nil ?_
  intro w hw
  exact ⟨hl14, o15, h, row16, slK, hw, ho17, trivial⟩
 have h := hge12 (ige hb13)
 refine WC.exit ?_
 change WC _ _ _ _ _ _
 refine WC.region ?_
 refine mV (k:=mV (k:=sV nlV (k:=sV (q_fl 9 dD) (k:=?_))))
 obtain ⟨A2_30, c2_30, A5_30, c5_30, g6_30, r6_30, A7_30, c7_30, A8_30, A9_30, c9_30, r9_30, m11_30, r11_30, A12_30, c12_30, hrow_30, ho0_30, ho1_30, ho2_30, ho3_30, ho4_30, ho5_30, ho6_30, ho7_30, ho8_30, ho9_30, ho10_30, ho11_30, ho12_30, ho13_30, ho14_30, ho15_30, ho16_30, -⟩ := id ho7
 refine ufR 0 hrow_30 [_, _, _, _, _] ?_
 refine sV (ldV 0 isAgg82) (k:=?_)
 refine ecV [2] (caV call86) (fun w hp => tC ho12_30 hp) ?_
 rintro Γ31 _ _ hl32 ⟨row35, rfl, rfl, hm36, _⟩
 refine cwV 108 [_, _, _, _, _] (sV nlV (k:=sV (q_fl 9 dD) (k:=stV 1 (.slice A9_30 ((List.filter (fun x => !(x.want.length == 0)) o5.list).length) c9_30) #[ii o5.c_self, ii o5.c_sites, .slice A2_30 o5.c_links.length c2_30, ii o5.c_cap, ii o5.c_base, .slice A5_30 o5.c_members.length c5_30, (pq g6_30), .slice A7_30 o5.applied.length c7_30, .pointer A8_30, .slice A9_30 ((List.filter (fun x => !(x.want.length == 0)) o5.list).length) c9_30, ii o5.next, .map (some m11_30), .slice A12_30 o5.members.length c12_30] sizeOf82 (k:=?_))))
 refine WR.nil ?_
 intro w hw
 obtain ⟨row_37, hrow_37, hob_37⟩ : ∃ rw : Rowb, rw = ([[(gq, .cells #[ii o5.c_self, ii o5.c_sites, .slice A2_30 o5.c_links.length c2_30, ii o5.c_cap, ii o5.c_base, .slice A5_30 o5.c_members.length c5_30, (pq g6_30), .slice A7_30 o5.applied.length c7_30, .pointer A8_30, .slice A9_30 ((List.filter (fun x => !(x.want.length == 0)) o5.list).length) c9_30, ii o5.next, .map (some m11_30), .slice A12_30 o5.members.length c12_30] eq.1 (0, 0))], r6_30, row35, r11_30] : List Rowb).flatten ∧ a6.ob eq Γ31 gq rw (⟨o5.c_self, o5.c_sites, o5.c_links, o5.c_cap, o5.c_base, o5.c_members, o5.log, o5.applied, o5.under, (List.filter (fun x => !(x.want.length == 0)) o5.list), o5.next, o5.gaps, o5.members⟩ : a6) := ⟨_, rfl, A2_30, c2_30, A5_30, c5_30, g6_30, r6_30, A7_30, c7_30, A8_30, A9_30, c9_30, row35, m11_30, r11_30, A12_30, c12_30, rfl, ho0_30, ho1_30, ho2_30, (ho3_30.mono hl32), ho4_30, ho5_30, ho6_30, (ho7_30.mono hl32), (ho8_30.mono hl32), ho9_30, (ho10_30.mono hl32), (ho11_30.mono hl32), hm36, ho13_30, (ho14_30.mono hl32), ho15_30, (ho16_30.mono hl32), trivial⟩
 have hw := hw.fold (is := [1, 1, 0, 0]) rfl hrow_37
 obtain rfl := Option.some.inj h
 subst hF
 exact aO (is := [0]) (by kernel_rfl) hw rfl ⟨row_37, rfl, rfl, hob_37, trivial⟩
theorem gz {gq : Nat} {eq : Nat × Nat} {rowq : Rowb} {q : a6} (hq : a6.ob eq Γ gq rowq q) (hqr : ∀ p ∈ rowq, Γ p.1 = some p.2) (x_ : au) (hx_ : au.fits Γ  x_) (hs : Sat Γ w0) {r : Bool} (h : bw q x_ = some r) : CQ Tryz.prog 34 #[(pq gq), .iface 118 (.agg #[ii x_.sink])] w0 (.bool r) := by
 refine goQ [4] func34 ntmps34 results34 hs fun F hF => ?_
 refine WC.rs ?_
 refine bxV (v := (pq gq)) fun g1 => ?_
 refine aV (k:=WR.done (WC.seq (WC.rs (mU (v := .iface 118 (.agg #[ii x_.sink])) (k:=WR.done (WC.block (WC.rs ?_)))))))
 refine sV (aH underlying98 zeroValue98 rfl rfl rfl) (k:=sV exV (k:=sV exV (k:=WR.done ?_)))
 refine WC.cfk (b := false) (by kernel_rfl) rfl ?_
 refine WC.rs (sV (aH underlying101 zeroValue101 rfl rfl rfl) (k:=sV exV (k:=sV exV (k:=WR.done ?_))))
 refine WC.cfk (b := false) (by kernel_rfl) rfl ?_
 refine WC.rs (sV (aH underlying166 zeroValue166 rfl rfl rfl) (k:=sV exV (k:=sV exV (k:=WR.done ?_))))
 refine WC.cfk (b := false) (by kernel_rfl) rfl ?_
 refine WC.rs (sV (aH underlying107 zeroValue107 rfl rfl rfl) (k:=sV exV (k:=sV exV (k:=WR.done ?_))))
 refine WC.cfk (b := false) (by kernel_rfl) rfl ?_
 refine WC.rs (sV (dv underlying118 rfl rfl) (k:=sV exV (k:=sV exV (k:=WR.done ?_))))
 refine WC.ctk (b := true) (by kernel_rfl) rfl ?_
 refine WC.rs ?_
 refine alV zeroValue118 fun g2 => ?_
 refine stV 0 (.agg #[ii x_.sink]) #[ii x_.sink] sizeOf118 (k:=WR.done (WC.rs (sV (ldV 1 isAgg27) (k:=sV (q_fl 0 pu) (k:=sV (ldV 0 isAgg2) (k:=?_))))))
 obtain ⟨z3, hz4, h⟩ := bnd h
 refine vqV (caV call79) (fun w hw => kr (Γ := Gh.all w) (hq.mono hw.sat.le_all) (fun p hp => hw.sat _ _ (hqr p hp)) x_.sink hx_ (Sat.all w) hz4) (k:=aV (k:=WR.done ?_))
 exact WC.ret fun w hw => rq_ r h hF hw
abbrev lJ (gq : Nat) (eq : Nat × Nat) (r : a6) (U : List Rowb) (Γ : Gh) (v : Value) : Prop := ∃ (rowq' : Rowb), v = .tuple #[] ∧ U = [rowq'] ∧ a6.ob eq Γ gq rowq' r ∧ True
theorem bS {gq : Nat} {eq : Nat × Nat} {rowq : Rowb} {q : a6} (hq : a6.ob eq Γ gq rowq q) (x_ : au) (hx_ : au.fits Γ  x_) (hp : Pre [rowq] Γ w0) {r : a6} (h : b7 q x_ = some r) : Calls Tryz.prog 35 #[(pq gq), .iface 118 (.agg #[ii x_.sink])] w0 (Outc Γ [rowq] w0 (lJ gq eq r)) := by
 refine goV [] func35 ntmps35 results35 hp fun F hF => ?_
 refine WC.rs (mU (v := .iface 118 (.agg #[ii x_.sink])) (k:=WR.done (WC.block (WC.rs (sV (aH underlying98 zeroValue98 rfl rfl rfl) (k:=sV exV (k:=sV exV (k:=?_))))))))
 refine WR.done ?_
 refine WC.cfk (b := false) (by kernel_rfl) rfl ?_
 refine WC.rs (sV (aH underlying101 zeroValue101 rfl rfl rfl) (k:=sV exV (k:=sV exV (k:=WR.done ?_))))
 refine WC.cfk (b := false) (by kernel_rfl) rfl ?_
 refine WC.rs (sV (aH underlying166 zeroValue166 rfl rfl rfl) (k:=sV exV (k:=sV exV (k:=WR.done ?_))))
 refine WC.cfk (b := false) (by kernel_rfl) rfl ?_
 refine WC.rs (sV (aH underlying107 zeroValue107 rfl rfl rfl) (k:=sV exV (k:=sV exV (k:=WR.done ?_))))
 refine WC.cfk (b := false) (by kernel_rfl) rfl ?_
 refine WC.rs (sV (dv underlying118 rfl rfl) (k:=sV exV (k:=sV exV (k:=WR.done ?_))))
 refine WC.ctk (b := true) (by kernel_rfl) rfl ?_
 refine WC.rs ?_
 refine alV zeroValue118 fun g1 => ?_
 refine stV 0 (.agg #[ii x_.sink]) #[ii x_.sink] sizeOf118 (k:=WR.done ?_)
 refine leV fun h02 => ?_
 refine eD (CC F Γ [[(g1, .cells #[ii x_.sink] 118 (0, 0))]]) (bo_ [0] gR h02) fun k => ?_
 change WH _ _ _ _ (CC F Γ [_, _]) _ 7 _ _
 refine hV 0 k (q:=moV) (k:=hV 1 k (q:=nlV) (k:=hV 2 k (q:=q_fl 11 pc) (k:=hV 4 k (q:=q_fl 0 pu) (k:=hV 5 k (q:=ldV 0 isAgg2) (k:=wl_ 3 rfl ?_)))))
 obtain ⟨A2_3, c2_3, A5_3, c5_3, g6_3, r6_3, A7_3, c7_3, A8_3, A9_3, c9_3, r9_3, m11_3, r11_3, A12_3, c12_3, hrow_3, ho0_3, ho1_3, ho2_3, ho3_3, ho4_3, ho5_3, ho6_3, ho7_3, ho8_3, ho9_3, ho10_3, ho11_3, ho12_3, ho13_3, ho14_3, ho15_3, ho16_3, -⟩ := id hq
 refine ufR 1 hrow_3 [_, _, _, _, _] ?_
 refine sV (ldV 0 isAgg80) (k:=?_)
 refine WR.nil (nxV (bo_ [4] gR h02) fun k => ?_)
 refine wl_ 6 rfl ?_
 refine qF (i := 3) (x := x_.sink) rfl ho14_3 rfl rfl rfl underlying80 rfl rfl ?_
 intro row4 hm5
 refine WR.nil (nxV (bo_ [4] gR h02) fun k => ?_)
 refine WH.done (by kernel_rfl) ?_
 intro w hw
 obtain ⟨row_6, hrow_6, hob_6⟩ : ∃ rw : Rowb, rw = ([[(gq, .cells #[ii q.c_self, ii q.c_sites, .slice A2_3 q.c_links.length c2_3, ii q.c_cap, ii q.c_base, .slice A5_3 q.c_members.length c5_3, (pq g6_3), .slice A7_3 q.applied.length c7_3, .pointer A8_3, .slice A9_3 q.list.length c9_3, ii q.next, .map (some m11_3), .slice A12_3 q.members.length c12_3] eq.1 (0, 0))], r6_3, r9_3, row4] : List Rowb).flatten ∧ a6.ob eq Γ gq rw (⟨q.c_self, q.c_sites, q.c_links, q.c_cap, q.c_base, q.c_members, q.log, q.applied, q.under, q.list, q.next, (mdel x_.sink q.gaps), q.members⟩ : a6) := ⟨_, rfl, A2_3, c2_3, A5_3, c5_3, g6_3, r6_3, A7_3, c7_3, A8_3, A9_3, c9_3, r9_3, m11_3, row4, A12_3, c12_3, rfl, ho0_3, ho1_3, ho2_3, ho3_3, ho4_3, ho5_3, ho6_3, ho7_3, ho8_3, ho9_3, ho10_3, ho11_3, ho12_3, ho13_3, hm5, ho15_3, ho16_3, trivial⟩
 have hw := hw.fold (is := [0, 0, 0, 0]) rfl hrow_6
 obtain rfl := Option.some.inj h
 subst hF
 exact aO (is := [0]) (by kernel_rfl) hw rfl ⟨row_6, rfl, rfl, hob_6, trivial⟩
end Fw
end Go.Proofs.YtlfmppjcgaekhaaGreat
