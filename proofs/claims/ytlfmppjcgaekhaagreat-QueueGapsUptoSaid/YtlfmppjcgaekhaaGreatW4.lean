/- Walks through the functions that the law reaches (printed by a program). No condition. -/
import Derived.Test.YtlfmppjcgaekhaaGreatW3
namespace Go.Proofs.YtlfmppjcgaekhaaGreat
namespace Fw
set_option linter.unusedVariables false
set_option linter.unusedSimpArgs false
set_option linter.unusedSectionVars false
set_option maxRecDepth 100000
set_option maxHeartbeats 400000
open Go.RowKit
open Go.Proofs.Tryz
variable {Γ : Gh} {w0 : World}
theorem nI {Amembers : Option Addr} {cmembers : Nat} {members : List Int} (hmembers : Sl intT Γ Amembers members) (hmembersc : members.length ≤ cmembers) (hs : Sat Γ w0) {r : Bool} (h : fw members = some r) : CQ Tryz.prog 40 #[.slice Amembers members.length cmembers] w0 (.bool r) := by
 refine goQ [2] func40 ntmps40 results40 hs fun F hF => ?_
 refine WC.rs (aV (k:=WR.done (WC.seq (WC.rs (mV (k:=sV (ab rfl underlying22) (k:=sV aS (k:=?_))))))))
 refine mV (k:=vG0 (h:=fun hg1 => moV) (k:=vG0 (h:=fun hg2 => ab rfl underlying22 (grV hg2)) (k:=vG0 (h:=fun hg3 => bB rfl (grV hg3)) (k:=sV pkO (k:=WR.done ?_)))))
 refine ciV h (fun hb4 h => ?_) (fun hb4 h => ?_)
 ·
  refine WC.rs (aV (k:=WR.done ?_))
  exact WC.ret fun w hw => rq_ r h hF hw
 refine WC.skip (wc_ (WC.seq (WC.rs (aV (k:=WR.done (WC.block ?_))))))
 refine WC.forI h (fun (i6 : Nat) (s : Unit) σ w => match s with | () => slots σ [(0, .slice Amembers members.length cmembers), (3, ii (i6 : Int))] ∧ CC F Γ [] w ∧ True) ?_ ?_
 ·
  intro w hw
  exact ⟨slK, hw, trivial⟩
 rintro f5 i6 ⟨⟩ σ w hi7 hlt8 hge9 ⟨hsl, hw, -⟩
 refine slV hsl hw [] ?_; clear hw hsl
 refine WC.seq (WC.rs (mV (k:=mV (k:=sV (ab rfl underlying22) (k:=sV aS (k:=WR.done ?_))))))
 refine coV (fun hb10 => ?_) (fun hb10 => ?_)
 ·
  have hl11 := ilt hb10
  have h := hlt8 hl11
  refine WC.skip (wc_ (WC.seq (WC.block (WC.seq (WC.rs (mV (k:=mV (k:=?_))))))))
  refine sV (bb (i := i6) underlying22 sizeOf3 rfl rfl rfl hl11 (hmembers.some_ hl11)) (k:=sV (q_ld (c := 0) (v := ii (gt members i6)) (hmembers.intT_at hl11).2 rfl isAgg3 rfl rfl) (k:=sV aS (k:=mV (k:=vG0 (h:=fun hg12 => moV) (k:=vG0 (h:=fun hg13 => moV) (k:=vG0 (h:=fun hg14 => bb (i := i6) underlying22 sizeOf3 rfl (grV hg14) (grV hg14) hl11 (hmembers.some_ hl11)) (k:=vG0 (h:=fun hg15 => q_ld (c := 0) (v := ii (gt members i6)) (hmembers.intT_at hl11).2 rfl isAgg3 (grV hg15) rfl) (k:=?_))))))))
  refine vG0 (h:=fun hg16 => bB rfl (grV hg16)) (k:=sV pkO (k:=WR.done ?_))
  refine ciV h (fun hb17 h => ?_) (fun hb17 h => ?_)
  ·
   refine WC.rs (aV (k:=WR.done ?_))
   exact WC.ret fun w hw => rq_ r h hF hw
  refine WC.skip (wc_ (WC.seq ?_))
  refine drV ?_
  refine zV moV (k:=zV bB (k:=zV moV (k:=wG1 (h:=fun hg18 => moV) (k:=wG1 (h:=fun hg19 => moV) (k:=wG1 (h:=fun hg20 => bb (i := i6) underlying22 sizeOf3 rfl (grV hg20) (grV hg20) hl11 (hmembers.some_ hl11)) (k:=wG1 (h:=fun hg21 => q_ld (c := 0) (v := ii (gt members i6)) (hmembers.intT_at hl11).2 rfl isAgg3 (grV hg21) rfl) (k:=wG1 (h:=fun hg22 => moV) (k:=?_))))))))
  refine wG1 (h:=fun hg23 => moV) (k:=wG1 (h:=fun hg24 => hQ rfl (grV hg24)) (k:=?_))
  obtain ⟨hk26, h⟩ := ai h
  refine wG1 (h:=fun hg25 => q_ix underlying22 sizeOf3 rfl (grV hg25) (grV hg25) (bg hk26 hg25) (hmembers.some_ (bG (bg hk26 hg25)))) (k:=wG1 (h:=fun hg27 => q_ld (c := 0) (v := ii (gt members ((w64 ((i6 : Int) - 1)).toNat))) (hmembers.intT_at (bG (bg hk26 hg27))).2 rfl isAgg3 (grV hg27) rfl) (k:=wG1 (h:=fun hg28 => gm rfl (grV hg28) (grV hg28)) (k:=zV pkA (k:=?_))))
  refine WQ.nil ?_
  change WC _ _ _ _ _ _
  refine ciV h (fun hb29 h => ?_) (fun hb29 h => ?_)
  ·
   refine WC.rs (aV (k:=WR.done ?_))
   exact WC.ret fun w hw => rq_ r h hF hw
  refine WC.skip (wc_ ?_)
  refine WC.region ?_
  refine mV (k:=sV (aC rfl rfl rfl (aP hl11 hmembers.le)) (k:=aV (k:=?_)))
  refine WR.nil ?_
  intro w hw
  exact ⟨hl11, (), h, slK, hw, trivial⟩
 have h := hge9 (ige hb10)
 refine WC.exit ?_
 change WC _ _ _ _ _ _
 refine WC.rs (aV (k:=WR.done ?_))
 exact WC.ret fun w hw => rq_ r h hF hw
theorem nQ {Ac_2 : Option Addr} {cc_2 : Nat} {Ac_5 : Option Addr} {cc_5 : Nat} (c_ : aE) (hc_ : aE.fits Γ Ac_2 cc_2 Ac_5 cc_5 c_) (hs : Sat Γ w0) {r : Bool} (h : dL c_ = some r) : CQ Tryz.prog 18 #[.agg (aE.cs Ac_2 cc_2 Ac_5 cc_5 c_).toArray] w0 (.bool r) := by
 refine goQ [2] func18 ntmps18 results18 hs fun F hF => ?_
 refine WC.rs ?_
 refine bxV (v := .agg (aE.cs Ac_2 cc_2 Ac_5 cc_5 c_).toArray) fun g1 => ?_
 refine aV (k:=WR.done (WC.seq (WC.rs (sV (q_fl 1 oj) (k:=sV (ldV 0 isAgg3) (k:=sV aS (k:=mV (k:=?_))))))))
 refine vG0 (h:=fun hg2 => q_fl 1 oj) (k:=vG0 (h:=fun hg3 => ldV 0 isAgg3 (hx:=grV hg3)) (k:=vG0 (h:=fun hg4 => bB rfl (grV hg4)) (k:=sV pkO (k:=mV (k:=vG0 (h:=fun hg5 => q_fl 0 r5) (k:=vG0 (h:=fun hg6 => ldV 0 isAgg3 (hx:=grV hg6)) (k:=vG0 (h:=fun hg7 => aS rfl (grV hg7)) (k:=?_))))))))
 refine sV pkO (k:=mV (k:=vG0 (h:=fun hg8 => q_fl 0 r5) (k:=vG0 (h:=fun hg9 => ldV 0 isAgg3 (hx:=grV hg9)) (k:=vG0 (h:=fun hg10 => q_fl 1 oj) (k:=vG0 (h:=fun hg11 => ldV 0 isAgg3 (hx:=grV hg11)) (k:=vG0 (h:=fun hg12 => bB rfl (grV hg12) (grV hg12)) (k:=sV pkO (k:=?_))))))))
 refine mV (k:=vG0 (h:=fun hg13 => q_fl 3 tO) (k:=vG0 (h:=fun hg14 => ldV 0 isAgg3 (hx:=grV hg14)) (k:=vG0 (h:=fun hg15 => aS rfl (grV hg15)) (k:=sV pkO (k:=mV (k:=vG0 (h:=fun hg16 => q_fl 3 tO) (k:=vG0 (h:=fun hg17 => ldV 0 isAgg3 (hx:=grV hg17)) (k:=?_))))))))
 refine vG0 (h:=fun hg18 => bB rfl (grV hg18)) (k:=sV pkO (k:=mV (k:=vG0 (h:=fun hg19 => q_fl 4 tH) (k:=vG0 (h:=fun hg20 => ldV 0 isAgg2 (hx:=grV hg20)) (k:=vG0 (h:=fun hg21 => aS rfl (grV hg21)) (k:=sV pkO (k:=mV (k:=?_))))))))
 refine vG0 (h:=fun hg22 => q_fl 4 tH) (k:=vG0 (h:=fun hg23 => ldV 0 isAgg2 (hx:=grV hg23)) (k:=vG0 (h:=fun hg24 => bB rfl (grV hg24)) (k:=sV pkO (k:=mV (k:=vG0 (h:=fun hg25 => q_fl 5 yy) (k:=vG0 (h:=fun hg26 => ldV 0 isAgg22 (hx:=grV hg26)) (k:=?_)))))))
 obtain ⟨z28, hz29, h⟩ := bnd h
 refine vC0 (h:=fun hg27 => bl (aR call40 rfl rfl (mB (grV hg27))) (fun w hw => nI (Γ := Gh.all w) (hc_.2.2.2.2.2.2.mono hw.sat.le_all) hc_.2.2.2.2.2.1 (Sat.all w) (eQ hz29 hg27))) (k:=vG0 (h:=fun hg30 => bu rfl (grV hg30)) (k:=sV pkO (k:=WR.done ?_)))
 refine ciV h (fun hb31 h => ?_) (fun hb31 h => ?_)
 ·
  refine WC.rs (aV (k:=WR.done ?_))
  exact WC.ret fun w hw => rq_ r h hF hw
 refine WC.skip (wc_ (WC.seq (WC.rs (aV (k:=WR.done (WC.block ?_))))))
 refine WC.forI h (fun (i33 : Nat) (s : Unit) σ w => match s with | () => slots σ [(1, (pq g1)), (3, ii (i33 : Int))] ∧ CC F Γ [[(g1, .cells (aE.cs Ac_2 cc_2 Ac_5 cc_5 c_).toArray 57 (0, 0))]] w ∧ True) ?_ ?_
 ·
  intro w hw
  exact ⟨slK, hw, trivial⟩
 rintro f32 i33 ⟨⟩ σ w hi34 hlt35 hge36 ⟨hsl, hw, -⟩
 refine slV hsl hw [_] ?_; clear hw hsl
 refine WC.seq (WC.rs (mV (k:=sV (q_fl 2 lh) (k:=sV (ldV 0 isAgg22) (k:=sV (ab rfl underlying22) (k:=sV aS (k:=WR.done ?_)))))))
 refine coV (fun hb37 => ?_) (fun hb37 => ?_)
 ·
  have hl38 := ilt hb37
  have h := hlt35 hl38
  refine WC.skip (wc_ (WC.seq (WC.block (WC.seq ?_))))
  refine drV ?_
  refine zV (q_fl 2 lh) (k:=zV (ldV 0 isAgg22) (k:=zV moV (k:=zV (bb (i := i33) underlying22 sizeOf3 rfl rfl rfl hl38 (hc_.2.2.1.2.some_ hl38)) (k:=zV (q_ld (c := 0) (v := ii (gt c_.links i33)) (hc_.2.2.1.2.intT_at hl38).2 rfl isAgg3 rfl rfl) (k:=zV aS (k:=zV moV (k:=wG0 (h:=fun hg39 => q_fl 2 lh) (k:=?_))))))))
  refine wG0 (h:=fun hg40 => ldV 0 isAgg22 (hx:=grV hg40)) (k:=wG0 (h:=fun hg41 => moV) (k:=wG0 (h:=fun hg42 => bb (i := i33) underlying22 sizeOf3 rfl (grV hg42) (grV hg42) hl38 (hc_.2.2.1.2.some_ hl38)) (k:=wG0 (h:=fun hg43 => q_ld (c := 0) (v := ii (gt c_.links i33)) (hc_.2.2.1.2.intT_at hl38).2 rfl isAgg3 (grV hg43) rfl) (k:=wG0 (h:=fun hg44 => q_fl 1 oj) (k:=wG0 (h:=fun hg45 => ldV 0 isAgg3 (hx:=grV hg45)) (k:=wG0 (h:=fun hg46 => bB rfl (grV hg46) (grV hg46)) (k:=zV pkO (k:=?_))))))))
  refine zV moV (k:=wG0 (h:=fun hg47 => q_fl 2 lh) (k:=wG0 (h:=fun hg48 => ldV 0 isAgg22 (hx:=grV hg48)) (k:=wG0 (h:=fun hg49 => moV) (k:=wG0 (h:=fun hg50 => bb (i := i33) underlying22 sizeOf3 rfl (grV hg50) (grV hg50) hl38 (hc_.2.2.1.2.some_ hl38)) (k:=wG0 (h:=fun hg51 => q_ld (c := 0) (v := ii (gt c_.links i33)) (hc_.2.2.1.2.intT_at hl38).2 rfl isAgg3 (grV hg51) rfl) (k:=wG0 (h:=fun hg52 => q_fl 0 r5) (k:=wG0 (h:=fun hg53 => ldV 0 isAgg3 (hx:=grV hg53)) (k:=?_))))))))
  refine wG0 (h:=fun hg54 => bp rfl (grV hg54) (grV hg54)) (k:=zV pkO (k:=zV moV (k:=wG0 (h:=fun hg55 => moV) (k:=wG0 (h:=fun hg56 => bB rfl (grV hg56)) (k:=wG0 (h:=fun hg57 => ay (v := .bool (decide (0 < (i33 : Int)))) rfl (grV hg57)) (k:=wh1 (c0 := (!(((decide ((gt c_.links i33) < 1)) || (decide (c_.sites < (gt c_.links i33)))) || ((gt c_.links i33) == c_.self)))) (g := (decide (0 < (i33 : Int)))) rfl rfl rfl rfl rfl (fun _ => QV.qo (q_fl 2 lh)) (wh1 (c0 := (!(((decide ((gt c_.links i33) < 1)) || (decide (c_.sites < (gt c_.links i33)))) || ((gt c_.links i33) == c_.self)))) (g := (decide (0 < (i33 : Int)))) rfl rfl rfl rfl rfl (fun hg59 => QV.qo (ldV 0 isAgg22 (hx:=grV hg59))) ?_)))))))
  refine wh1 (c0 := (!(((decide ((gt c_.links i33) < 1)) || (decide (c_.sites < (gt c_.links i33)))) || ((gt c_.links i33) == c_.self)))) (g := (decide (0 < (i33 : Int)))) rfl rfl rfl rfl rfl (fun _ => QV.qo moV) (wh1 (c0 := (!(((decide ((gt c_.links i33) < 1)) || (decide (c_.sites < (gt c_.links i33)))) || ((gt c_.links i33) == c_.self)))) (g := (decide (0 < (i33 : Int)))) rfl rfl rfl rfl rfl (fun hg61 => QV.qo (bb (i := i33) underlying22 sizeOf3 rfl (grV hg61) (grV hg61) hl38 (hc_.2.2.1.2.some_ hl38))) (wh1 (c0 := (!(((decide ((gt c_.links i33) < 1)) || (decide (c_.sites < (gt c_.links i33)))) || ((gt c_.links i33) == c_.self)))) (g := (decide (0 < (i33 : Int)))) rfl rfl rfl rfl rfl (fun hg62 => QV.qo (q_ld (c := 0) (v := ii (gt c_.links i33)) (hc_.2.2.1.2.intT_at hl38).2 rfl isAgg3 (grV hg62) rfl)) (wh1 (c0 := (!(((decide ((gt c_.links i33) < 1)) || (decide (c_.sites < (gt c_.links i33)))) || ((gt c_.links i33) == c_.self)))) (g := (decide (0 < (i33 : Int)))) rfl rfl rfl rfl rfl (fun _ => QV.qo (q_fl 2 lh)) (wh1 (c0 := (!(((decide ((gt c_.links i33) < 1)) || (decide (c_.sites < (gt c_.links i33)))) || ((gt c_.links i33) == c_.self)))) (g := (decide (0 < (i33 : Int)))) rfl rfl rfl rfl rfl (fun hg64 => QV.qo (ldV 0 isAgg22 (hx:=grV hg64))) ?_))))
  refine wh1 (c0 := (!(((decide ((gt c_.links i33) < 1)) || (decide (c_.sites < (gt c_.links i33)))) || ((gt c_.links i33) == c_.self)))) (g := (decide (0 < (i33 : Int)))) rfl rfl rfl rfl rfl (fun _ => QV.qo moV) (wh1 (c0 := (!(((decide ((gt c_.links i33) < 1)) || (decide (c_.sites < (gt c_.links i33)))) || ((gt c_.links i33) == c_.self)))) (g := (decide (0 < (i33 : Int)))) rfl rfl rfl rfl rfl (fun hg66 => QV.qo (hQ rfl (grV hg66))) ?_)
  obtain ⟨hk68, h⟩ := ai h
  refine wh1 (c0 := (!(((decide ((gt c_.links i33) < 1)) || (decide (c_.sites < (gt c_.links i33)))) || ((gt c_.links i33) == c_.self)))) (g := (decide (0 < (i33 : Int)))) rfl rfl rfl rfl rfl (fun hg67 => QV.qo (q_ix underlying22 sizeOf3 rfl (grV hg67) (grV hg67) (bg hk68 hg67) (hc_.2.2.1.2.some_ (bG (bg hk68 hg67))))) (wh1 (c0 := (!(((decide ((gt c_.links i33) < 1)) || (decide (c_.sites < (gt c_.links i33)))) || ((gt c_.links i33) == c_.self)))) (g := (decide (0 < (i33 : Int)))) rfl rfl rfl rfl rfl (fun hg69 => QV.qo (q_ld (c := 0) (v := ii (gt c_.links ((w64 ((i33 : Int) - 1)).toNat))) (hc_.2.2.1.2.intT_at (bG (bg hk68 hg69))).2 rfl isAgg3 (grV hg69) rfl)) (wh1 (c0 := (!(((decide ((gt c_.links i33) < 1)) || (decide (c_.sites < (gt c_.links i33)))) || ((gt c_.links i33) == c_.self)))) (g := (decide (0 < (i33 : Int)))) rfl rfl rfl rfl rfl (fun hg70 => QV.qo (gm rfl (grV hg70) (grV hg70))) (wG0 (h:=fun hg71 => fU rfl (grV hg71) (kX (c := (!(((decide ((gt c_.links i33) < 1)) || (decide (c_.sites < (gt c_.links i33)))) || ((gt c_.links i33) == c_.self)))) (g := (decide (0 < (i33 : Int)))) (y := (decide ((gt c_.links i33) ≤ (gt c_.links ((w64 ((i33 : Int) - 1)).toNat))))) hg71)) (k:=zV pkO (k:=?_)))))
  refine WQ.nil ?_
  change WC _ _ _ _ _ _
  refine ciV h (fun hb72 h => ?_) (fun hb72 h => ?_)
  ·
   refine WC.rs (aV (k:=WR.done ?_))
   exact WC.ret fun w hw => rq_ r h hF hw
  refine WC.skip (wc_ ?_)
  refine WC.region ?_
  refine mV (k:=sV (aC rfl rfl rfl (aP hl38 hc_.2.2.1.2.le)) (k:=aV (k:=?_)))
  refine WR.nil ?_
  intro w hw
  exact ⟨hl38, (), h, slK, hw, trivial⟩
 have h := hge36 (ige hb37)
 refine WC.exit ?_
 change WC _ _ _ _ _ _
 refine WC.rs (aV (k:=WR.done ?_))
 exact WC.ret fun w hw => rq_ r h hF hw
abbrev oY (gd : Nat) (ed : Nat) (r : a7) (U : List Rowb) (Γ : Gh) (v : Value) : Prop := ∃ (rowd' : Rowb), v = .tuple #[] ∧ U = [rowd'] ∧ a7.ob ed Γ gd rowd' r ∧ True
theorem ov {gd ed : Nat} {rowd : Rowb} {d : a7} (hd : a7.ob ed Γ gd rowd d) (keep : Int) (hkeep : I64 keep) (torn : Int) (htorn : I64 torn) (hp : Pre [rowd] Γ w0) {r : a7} (h : gh d keep torn = some r) : Calls Tryz.prog 23 #[(pq gd), ii keep, ii torn] w0 (Outc Γ [rowd] w0 (oY gd ed r)) := by
 refine goV [] func23 ntmps23 results23 hp fun F hF => ?_
 refine WC.rs (mV (k:=sV qQ (k:=mV (k:=sV nlV (k:=sV (q_fl 3 hZ) (k:=?_))))))
 obtain ⟨m1_1, r1_1, m2_1, r2_1, A3_1, c3_1, r3_1, hrow_1, ho0_1, ho1_1, ho2_1, ho3_1, -⟩ := id hd
 refine ufR 0 hrow_1 [_, _, _, _] ?_
 refine sV (ldV 0 isAgg91) (k:=sV (ab rfl underlying91) (k:=sV ug (k:=aV (k:=WR.done (WC.seq (WC.rs (mV (k:=?_))))))))
 refine sV nlV (k:=sV (q_fl 3 hZ) (k:=sV (ldV 0 isAgg91) (k:=mV (k:=?_))))
 have hc6 := ho3_1.capz
 refine seR 3 [_, _, _, _] fun Γ2 hl3 hr4 => ?_
 have hs5 := ho3_1.sl hl3 hr4
 obtain ⟨hk7, h⟩ := ai h
 refine sV (mF (c := c3_1) (hi := (min (max keep 0) (d.loose.length : Int)).toNat) (xs := d.loose) underlying91 sizeOf111 rfl rfl (iG rfl hk7) (cm hk7) hc6) (k:=sV (ab rfl underlying91) (k:=mV (k:=WR.done (WC.block ?_))))
 refine WC.forI h (fun (i14 : Nat) (m10 : List (ByteArray × (List UInt8))) σ w => ∃ (Γ8 : Gh), ∃ (row11 : Rowb), slots σ [(0, (pq gd)), (1, ii (min (max keep 0) (d.loose.length : Int))), (2, ii torn), (23, .slice A3_1 (List.take ((min (max keep 0) (d.loose.length : Int)).toNat) d.loose).length c3_1), (24, ii (((List.take ((min (max keep 0) (d.loose.length : Int)).toNat) d.loose).length : Nat) : Int)), (25, ii (i14 : Int))] ∧ CC F Γ8 [[(gd, .cells #[ii d.room, .map (some m1_1), .map (some m2_1), .slice A3_1 d.loose.length c3_1] ed (0, 0))], row11, r2_1] w ∧ Gh.le Γ2 Γ8 ∧ MapO (strK underlying9) (slT av).v Γ8 row11 m1_1 m10 ∧ True) ?_ ?_
 ·
  intro w hw
  exact ⟨Γ2, r1_1, slK, (hw.on [0, 0, 0]), gR, (ho1_1.mono hl3), trivial⟩
 rintro f13 i14 m10 σ w hi15 hlt16 hge17 ⟨Γ8, row11, hsl, hw, hl9, ho12, -⟩
 refine slV hsl hw [_, _, _] ?_; clear hw hsl
 refine WC.rs (sV aS (k:=WR.done (WC.seq ?_)))
 refine coV (fun hb18 => ?_) (fun hb18 => ?_)
 ·
  have hl19 := ilt hb18
  have h := hlt16 hl19
  refine WC.skip (wc_ (WC.seq (WC.block (WC.rs (sV (bb (i := i14) underlying91 sizeOf111 rfl rfl rfl hl19 (((hs5.mono hl9).cut_to (hi := (min (max keep 0) (d.loose.length : Int)).toNat) (cm hk7)).some_ hl19)) (k:=?_))))))
  obtain ⟨A20, c21, A22, c23, hx24⟩ := ((hs5.mono hl9).cut_to (hi := (min (max keep 0) (d.loose.length : Int)).toNat) (cm hk7)).ddisk_changeT_at i14
  refine sV (gY (c := 0) (vs := [(ah.val ((gt (List.take ((min (max keep 0) (d.loose.length : Int)).toNat) d.loose) i14).do_) A20 c21), .string (gt (List.take ((min (max keep 0) (d.loose.length : Int)).toNat) d.loose) i14).name, .slice A22 ((gt (List.take ((min (max keep 0) (d.loose.length : Int)).toNat) d.loose) i14).tail).length c23]) (hx24 hl19).2 rfl isAgg111 sizeOf111 rfl rfl rfl) (k:=?_)
  refine alV zeroValue111 fun g25 => ?_
  refine stV 0 (.agg #[(ah.val ((gt (List.take ((min (max keep 0) (d.loose.length : Int)).toNat) d.loose) i14).do_) A20 c21), .string (gt (List.take ((min (max keep 0) (d.loose.length : Int)).toNat) d.loose) i14).name, .slice A22 ((gt (List.take ((min (max keep 0) (d.loose.length : Int)).toNat) d.loose) i14).tail).length c23]) #[(ah.val ((gt (List.take ((min (max keep 0) (d.loose.length : Int)).toNat) d.loose) i14).do_) A20 c21), .string (gt (List.take ((min (max keep 0) (d.loose.length : Int)).toNat) d.loose) i14).name, .slice A22 ((gt (List.take ((min (max keep 0) (d.loose.length : Int)).toNat) d.loose) i14).tail).length c23] sizeOf111 (k:=WR.done ?_)
  refine leV fun h026 => ?_
  refine eD (CC F Γ8 [[(g25, .cells #[(ah.val ((gt (List.take ((min (max keep 0) (d.loose.length : Int)).toNat) d.loose) i14).do_) A20 c21), .string (gt (List.take ((min (max keep 0) (d.loose.length : Int)).toNat) d.loose) i14).name, .slice A22 ((gt (List.take ((min (max keep 0) (d.loose.length : Int)).toNat) d.loose) i14).tail).length c23] 111 (0, 0))], [(gd, .cells #[ii d.room, .map (some m1_1), .map (some m2_1), .slice A3_1 d.loose.length c3_1] ed (0, 0))]]) (bo_ [0, 0] gR h026) fun k => ?_
  change WH _ _ _ _ (CC F Γ8 [_, _, _, _]) _ 7 _ _
  refine hV 0 k (q:=q_fl 0 s8) (k:=hV 1 k (q:=ldV 0 isAgg109) (k:=hV 2 k (q:=moV) (k:=hV 3 k (q:=nlV) (k:=hV 4 k (q:=q_fl 1 oh) (k:=hV 5 k (q:=ldV 1 isAgg90) (k:=wl_ 6 rfl ?_))))))
  obtain ⟨z27, hz28, h⟩ := bnd h
  obtain ⟨fd29, cp30, hv31, he32, hcl33⟩ := fx (x := (gt (List.take ((min (max keep 0) (d.loose.length : Int)).toNat) d.loose) i14).do_) (hx24 hl19).1.1 ho12 hz28
  refine ecV [2] (ee (caps := cp30) (args := #[.map (some m1_1)] ++ cp30) he32 rfl (Eq.trans (b := (ah.val ((gt (List.take ((min (max keep 0) (d.loose.length : Int)).toNat) d.loose) i14).do_) A20 c21)) (by kernel_rfl) hv31) (by kernel_rfl)) (fun w hp => (by exact hcl33 w hp)) ?_
  rintro Γ34 _ _ hl35 ⟨row38, rfl, rfl, hr39, _⟩
  refine cwV 35 [_, _, _, _] ?_
  refine WR.nil (nxV (bo_ [1, 1] hl35 h026) fun k => ?_)
  refine WH.done (by kernel_rfl) ?_
  change WC _ _ _ _ _ _
  refine WC.region ?_
  refine sV (aC rfl rfl rfl (aP hl19 ((hs5.mono hl9).cut_to (hi := (min (max keep 0) (d.loose.length : Int)).toNat) (cm hk7)).le)) (k:=mV (k:=?_))
  refine WR.nil ?_
  intro w hw
  exact ⟨hl19, z27, h, Γ34, row38, slK, (hw.on [2, 0, 1]), (hl9.trans hl35), hr39, trivial⟩
 have h := hge17 (ige hb18)
 refine WC.exit ?_
 change WC _ _ _ _ _ _
 refine WC.cut (fun σ w => ∃ (m42 : List (ByteArray × (List UInt8))), ∃ (Γ40 : Gh), ∃ (row43 : Rowb), cZ d m42 = some r ∧ slots σ [(0, (pq gd))] ∧ CC F Γ40 [[(gd, .cells #[ii d.room, .map (some m1_1), .map (some m2_1), .slice A3_1 d.loose.length c3_1] ed (0, 0))], row43, r2_1] w ∧ Gh.le Γ8 Γ40 ∧ MapO (strK underlying9) (slT av).v Γ40 row43 m1_1 m42 ∧ True) ?_ ?_
 ·
  refine WC.rs (mV (k:=mV (k:=sV nlV (k:=sV (q_fl 3 hZ) (k:=sV (ldV 0 isAgg91) (k:=sV (ab rfl underlying91) (k:=sV aS (k:=?_))))))))
  refine WR.done ?_
  refine ciV h (fun hb45 h => ?_) (fun hb45 h => ?_)
  ·
   refine WC.rs (mV (k:=sV nlV (k:=sV (q_fl 3 hZ) (k:=sV (ldV 0 isAgg91) (k:=mV (k:=?_))))))
   obtain ⟨hk46, h⟩ := ai h
   refine sV (q_ix underlying91 sizeOf111 rfl rfl rfl hk46 ((hs5.mono hl9).some_ (bG hk46))) (k:=?_)
   obtain ⟨A47, c48, A49, c50, hx51⟩ := (hs5.mono hl9).ddisk_changeT_at ((min (max keep 0) (d.loose.length : Int)).toNat)
   refine sV (gY (c := 0) (vs := [(ah.val ((gt d.loose ((min (max keep 0) (d.loose.length : Int)).toNat)).do_) A47 c48), .string (gt d.loose ((min (max keep 0) (d.loose.length : Int)).toNat)).name, .slice A49 ((gt d.loose ((min (max keep 0) (d.loose.length : Int)).toNat)).tail).length c50]) (hx51 (bG hk46)).2 rfl isAgg111 sizeOf111 rfl rfl rfl) (k:=?_)
   refine alV zeroValue111 fun g52 => ?_
   refine stV 0 (.agg #[(ah.val ((gt d.loose ((min (max keep 0) (d.loose.length : Int)).toNat)).do_) A47 c48), .string (gt d.loose ((min (max keep 0) (d.loose.length : Int)).toNat)).name, .slice A49 ((gt d.loose ((min (max keep 0) (d.loose.length : Int)).toNat)).tail).length c50]) #[(ah.val ((gt d.loose ((min (max keep 0) (d.loose.length : Int)).toNat)).do_) A47 c48), .string (gt d.loose ((min (max keep 0) (d.loose.length : Int)).toNat)).name, .slice A49 ((gt d.loose ((min (max keep 0) (d.loose.length : Int)).toNat)).tail).length c50] sizeOf111 (k:=WR.done (WC.rs (mV (k:=sV qQ (k:=sV (q_fl 2 sE) (k:=sV (ldV 0 isAgg70) (k:=sV (ab rfl underlying70) (k:=?_))))))))
   refine sV ug (k:=aV (k:=WR.done (WC.rs (mV (k:=sV bB (k:=WR.done ?_))))))
   refine ciV h (fun hb53 h => ?_) (fun hb53 h => ?_)
   ·
    refine leV fun h054 => ?_
    refine eD (CC F Γ8 [[(g52, .cells #[(ah.val ((gt d.loose ((min (max keep 0) (d.loose.length : Int)).toNat)).do_) A47 c48), .string (gt d.loose ((min (max keep 0) (d.loose.length : Int)).toNat)).name, .slice A49 ((gt d.loose ((min (max keep 0) (d.loose.length : Int)).toNat)).tail).length c50] 111 (0, 0))], [(gd, .cells #[ii d.room, .map (some m1_1), .map (some m2_1), .slice A3_1 d.loose.length c3_1] ed (0, 0))]]) (bo_ [0, 0] gR h054) fun k => ?_
    change WH _ _ _ _ (CC F Γ8 [_, _, _, _]) _ 12 _ _
    refine hV 0 k (q:=q_fl 1 wU) (k:=hV 1 k (q:=ldV 0 isAgg9) (k:=hV 2 k (q:=q_fl 2 sE) (k:=hV 3 k (q:=ldV 0 isAgg70) (k:=hV 4 k (q:=moV) (k:=?_)))))
    obtain ⟨hk55, h⟩ := ai h
    refine hV 5 k (q:=mF (c := c50) (hi := (min (max torn 0) ((((gt d.loose ((min (max keep 0) (d.loose.length : Int)).toNat)).tail).length : Nat) : Int)).toNat) (xs := ((gt d.loose ((min (max keep 0) (d.loose.length : Int)).toNat)).tail)) underlying70 sizeOf5 rfl rfl (iG rfl hk55) (cm hk55) (hx51 (bG hk46)).1.2.2.1) (k:=hV 7 k (q:=moV) (k:=hV 8 k (q:=nlV) (k:=hV 9 k (q:=q_fl 1 oh) (k:=hV 10 k (q:=ldV 1 isAgg90) (k:=wl_ 6 rfl ?_)))))
    obtain ⟨z56, hz57, h⟩ := bnd h
    refine ecV [] (caV call42) (fun w hp => re ((gt d.loose ((min (max keep 0) (d.loose.length : Int)).toNat)).name) (hx51 (bG hk46)).1.2.1 ((hx51 (bG hk46)).1.2.2.2.cut_to (hi := (min (max torn 0) ((((gt d.loose ((min (max keep 0) (d.loose.length : Int)).toNat)).tail).length : Nat) : Int)).toNat) (cm hk55)) (rE (hx51 (bG hk46)).1.2.2.1 ((min (max torn 0) ((((gt d.loose ((min (max keep 0) (d.loose.length : Int)).toNat)).tail).length : Nat) : Int)).toNat)) hp hz57) ?_
    rintro Γ58 _ _ hl59 ⟨A62, c63, rfl, rfl, hr64, _⟩
    refine cwV 65 [_, _, _, _] ?_
    refine WR.nil (nxV (bo_ [0, 0] hl59 h054) fun k => ?_)
    refine wl_ 11 rfl ?_
    obtain ⟨z65, hz66, h⟩ := bnd h
    obtain ⟨fd67, cp68, hv69, he70, hcl71⟩ := fx (x := z56) hr64 (ho12.mono hl59) hz66
    refine ecV [2] (ee (caps := cp68) (args := #[.map (some m1_1)] ++ cp68) he70 rfl (Eq.trans (b := (ah.val z56 A62 c63)) (by kernel_rfl) hv69) (by kernel_rfl)) (fun w hp => (by exact hcl71 w hp)) ?_
    rintro Γ72 _ _ hl73 ⟨row76, rfl, rfl, hr77, _⟩
    refine cwV 70 [_, _, _, _] ?_
    refine WR.nil (nxV (bo_ [1, 1] (hl59.trans hl73) h054) fun k => ?_)
    refine WH.done (by kernel_rfl) ?_
    intro w hw
    exact ⟨z65, Γ72, row76, h, slK, (hw.on [2, 0, 1]), (hl59.trans hl73), hr77, trivial⟩
   refine WC.skip ?_
   intro w hw
   exact ⟨m10, Γ8, row11, h, slK, (hw.on [1, 1, 1]), gR, ho12, trivial⟩
  refine WC.skip ?_
  intro w hw
  exact ⟨m10, Γ8, row11, h, slK, hw, gR, ho12, trivial⟩
 rintro σ w ⟨m42, Γ40, row43, h, hsl, hw, hl41, ho44, -⟩
 refine slV hsl hw [_, _, _] ?_; clear hw hsl
 refine WC.rs (mV (k:=mV (k:=sV nlV (k:=sV (q_fl 1 oh) (k:=sV (ldV 0 isAgg90) (k:=?_))))))
 refine w9 vD (i := 1) rfl ho44 rfl rfl (caV call41) ?_
 intro g78 row79 hm80
 refine cwV 76 [_, _, _, _] (sV nlV (k:=sV (q_fl 2 jF) (k:=stV 1 (.map (some g78)) #[ii d.room, .map (some m1_1), .map (some g78), .slice A3_1 d.loose.length c3_1] sizeOf90 (k:=WR.done ?_))))
 refine WC.region ?_
 refine mV (k:=sV nlV (k:=sV (q_fl 3 hZ) (k:=stV 1 (.slice none 0 0) #[ii d.room, .map (some m1_1), .map (some g78), .slice none 0 0] sizeOf91 (k:=?_))))
 refine WR.nil ?_
 intro w hw
 have hw := hw.pad
 obtain ⟨row_81, hrow_81, hob_81⟩ : ∃ rw : Rowb, rw = ([[(gd, .cells #[ii d.room, .map (some m1_1), .map (some g78), .slice none 0 0] ed (0, 0))], row43, row79, []] : List Rowb).flatten ∧ a7.ob ed Γ40 gd rw (⟨d.room, m42, m42, []⟩ : a7) := ⟨_, rfl, m1_1, row43, g78, row79, none, 0, [], rfl, ho0_1, ho44, hm80, (Own.nil ey Γ40 111), trivial⟩
 have hw := hw.fold (is := [2, 2, 1, 0]) rfl hrow_81
 obtain rfl := Option.some.inj h
 subst hF
 exact aO (is := [0]) (by kernel_rfl) hw rfl ⟨row_81, rfl, rfl, hob_81, trivial⟩
theorem lw {Ac_2 : Option Addr} {cc_2 : Nat} {Ac_5 : Option Addr} {cc_5 : Nat} (c_ : aa) (hc_ : aa.fits Γ Ac_2 cc_2 Ac_5 cc_5 c_) (n : Int) (hn : U8 n) (acked : Int) (hacked : U8 acked) (hs : Sat Γ w0) {r : Bool} (h : fo c_ n acked = some r) : CQ Tryz.prog 4 #[.agg (aa.cs Ac_2 cc_2 Ac_5 cc_5 c_).toArray, .int .u8 n, .int .u8 acked] w0 (.bool r) := by
 refine goQ [6] func4 ntmps4 results4 hs fun F hF => ?_
 refine WC.rs ?_
 refine bxV (v := .agg (aa.cs Ac_2 cc_2 Ac_5 cc_5 c_).toArray) fun g1 => ?_
 refine aV (k:=WR.done (WC.seq (WC.rs ?_)))
 obtain ⟨z2, hz3, h⟩ := bnd h
 refine vqV (caV call6) (fun w hw => ip (Γ := Gh.all w)  (Sat.all w) hz3) (k:=sV bu (k:=mV (k:=vG0 (h:=fun hg4 => ldaV 0 (aa.cs Ac_2 cc_2 Ac_5 cc_5 c_) isAgg25 sizeOf25) (k:=?_))))
 refine (Bool.eq_false_or_eq_true (!(!z2))).elim (fun hb5 => ?_) (fun hb5 => ?_)
 ·
  have h := bt hb5 h
  refine WR.sat (c0 := true) (g := (!z2)) rfl rfl rfl hb5 ?_
  obtain ⟨z6, hz7, h⟩ := bnd h
  refine ecV [] (aR call19 rfl rfl (mB (grV hb5))) (fun w hp => ol c_ hc_ hp hz7) ?_
  rintro Γ8 _ _ hl9 ⟨A12, c13, A14, c15, rfl, rfl, hr16, _⟩
  refine cwV 24 [_] ?_
  refine WR.sat (c0 := true) (g := (!z2)) rfl rfl rfl hb5 ?_
  obtain ⟨z17, hz18, h⟩ := bnd h
  refine vqV (caV call18) (fun w hw => nQ (Γ := Gh.all w) z6 (aE.fits_mono hr16 hw.sat.le_all) (Sat.all w) hz18) (k:=?_)
  refine WR.sat (c0 := true) (g := (!z2)) rfl rfl rfl hb5 ?_
  refine sV bu (k:=sV (dK (v := .bool (!z17)) rfl rfl (qV hb5) (by kernel_rfl)) (k:=mV (k:=vG0 (h:=fun hg19 => q_fl 3 kb) (k:=vG0 (h:=fun hg20 => ldV 0 isAgg3 (hx:=grV hg20)) (k:=vG0 (h:=fun hg21 => bB rfl (grV hg21)) (k:=sV pkO (k:=mV (k:=?_))))))))
  refine vG0 (h:=fun hg22 => q_fl 4 l7) (k:=vG0 (h:=fun hg23 => ldV 0 isAgg2 (hx:=grV hg23)) (k:=vG0 (h:=fun hg24 => bB rfl (grV hg24)) (k:=sV pkO (k:=mV (k:=vG0 (h:=fun hg25 => q_fl 2 gx) (k:=vG0 (h:=fun hg26 => ldV 0 isAgg22 (hx:=grV hg26)) (k:=vG0 (h:=fun hg27 => ab rfl underlying22 (grV hg27)) (k:=?_))))))))
  refine vG0 (h:=fun hg28 => bp rfl (grV hg28)) (k:=sV pkO (k:=WR.done ?_))
  refine ciV h (fun hb29 h => ?_) (fun hb29 h => ?_)
  ·
   refine WC.rs ?_
   obtain ⟨z30, hz31, h⟩ := bnd h
   refine vqV (caV call6) (fun w hw => ip (Γ := Gh.all w)  (Sat.all w) hz31) (k:=aV (k:=WR.done ?_))
   exact WC.ret fun w hw => rq_ r h hF hw
  refine WC.skip (wc_ (WC.rs ?_))
  obtain ⟨z32, hz33, h⟩ := bnd h
  refine ecV [] (caV call9) (fun w hp => qK 16777216 iV hp hz33) ?_
  rintro Γ34 _ _ hl35 ⟨g38, row39, rfl, rfl, hr40, _⟩
  refine cwV 45 [_, _] (aV (k:=WR.done (WC.rs (mV (k:=sV (ldaV 1 (aa.cs Ac_2 cc_2 Ac_5 cc_5 c_) isAgg25 sizeOf25) (k:=?_))))))
  obtain ⟨z41, hz42, h⟩ := bnd h
  refine ecV [0] (caV call8) (fun w hp => k4 hr40 4096 iV c_ (aa.fits_mono hc_ (hl9.trans hl35)) hp hz42) ?_
  rintro Γ43 _ _ hl44 ⟨row47, g49, row50, rfl, rfl, hr48, hr51, hr52, _⟩
  refine cwV 49 [_, _, _] (mV (k:=sV exV (k:=sV exV (k:=aU (v := optp z41.2.1 g49) (k:=aV (k:=WR.done (WC.seq ?_)))))))
  refine WC.rs (mU (v := optp z41.2.1 g49) (k:=sV (pJ underlying27 rfl rfl rfl) (k:=mV (k:=vG0 (h:=fun hg53 => moV) (k:=vG0 (h:=fun hg54 => bZ rfl (grV hg54)) (k:=sV pkO (k:=WR.done ?_)))))))
  refine ciV h (fun hb55 h => ?_) (fun hb55 h => ?_)
  ·
   refine WC.rs (aV (k:=WR.done ?_))
   exact WC.ret fun w hw => rq_ r h hF hw
  obtain ⟨z56, hz57, h⟩ := bnd h
  have ho58 := ke hr51 hz57
  refine WC.skip (wc_ (WC.seq ?_))
  refine drV ?_
  refine zV (q_fl 2 gx) (k:=zV (ldV 2 isAgg22) (k:=zV moV (k:=zV (gZ underlying3 underlying5) (k:=zV (q_fl 2 gx) (k:=zV (ldV 2 isAgg22) (k:=zV (ab rfl underlying22) (k:=?_)))))))
  obtain ⟨hk59, h⟩ := ai h
  refine zV (vZ rfl rfl rfl hk59) (k:=?_)
  obtain ⟨hk60, h⟩ := ai h
  refine zV (q_ix underlying22 sizeOf3 rfl rfl rfl hk60 ((hc_.2.2.1.2.mono ((hl9.trans hl35).trans hl44)).some_ (bG hk60))) (k:=zV (q_ld (c := 0) (v := ii (gt c_.links (((w64 acked).tmod (c_.links.length : Int)).toNat))) ((hc_.2.2.1.2.mono ((hl9.trans hl35).trans hl44)).intT_at (bG hk60)).2 rfl isAgg3 rfl rfl) (k:=zV aoV (k:=?_)))
  refine WQ.nil ?_
  change WC _ _ _ _ _ _
  refine WC.seq (WC.rs (aV (k:=WR.done (WC.block ?_))))
  refine WC.forU h (fun (i70 : Nat) (s : a7 × a6) σ w => match s with | (o63, o66) => ∃ (Γ61 : Gh), ∃ (row64 : Rowb), ∃ (row67 : Rowb), slots σ [(1, .int .u8 n), (3, (pq g1)), (7, (pq g38)), (8, optp z41.2.1 g49), (10, ii (gt c_.links (((w64 acked).tmod (c_.links.length : Int)).toNat))), (11, ii (i70 : Int))] ∧ CC F Γ61 [row64, row67, [(g1, .cells (aa.cs Ac_2 cc_2 Ac_5 cc_5 c_).toArray 25 (0, 0))]] w ∧ Gh.le Γ43 Γ61 ∧ a7.ob 93 Γ61 g38 row64 o63 ∧ a6.ob (84, g38) Γ61 g49 row67 o66 ∧ True) ?_ ?_
  ·
   intro w hw
   exact ⟨Γ43, row47, row50, slK, hw, gR, hr48, ho58, trivial⟩
  rintro f69 i70 ⟨o63, o66⟩ σ w hi71 hlt72 hge73 ⟨Γ61, row64, row67, hsl, hw, hl62, ho65, ho68, -⟩
  refine slV hsl hw [_, _, _] ?_; clear hw hsl
  refine WC.seq (WC.rs (mV (k:=mV (k:=sV (vZ rfl rfl rfl (by decide)) (k:=sV (gZ underlying3 underlying5) (k:=sV aS (k:=WR.done ?_)))))))
  refine coV (fun hb74 => ?_) (fun hb74 => ?_)
  ·
   have hl75 := ilti hb74
   have h := hlt72 hl75
   refine WC.skip (wc_ ?_)
   refine WC.cut (fun σ w => ∃ (o78 : a7), ∃ (o81 : a6), ∃ (Γ76 : Gh), ∃ (row79 : Rowb), ∃ (row82 : Rowb), dS f69 o78 o81 = some r ∧ slots σ [(1, .int .u8 n), (3, (pq g1)), (7, (pq g38)), (8, optp z41.2.1 g49), (10, ii (gt c_.links (((w64 acked).tmod (c_.links.length : Int)).toNat))), (11, ii (i70 : Int))] ∧ CC F Γ76 [row79, row82, [(g1, .cells (aa.cs Ac_2 cc_2 Ac_5 cc_5 c_).toArray 25 (0, 0))]] w ∧ Gh.le Γ61 Γ76 ∧ a7.ob 93 Γ76 g38 row79 o78 ∧ a6.ob (84, g38) Γ76 g49 row82 o81 ∧ True) ?_ ?_
   ·
    refine WC.block (WC.rs (sV (ay (v := (pq g49)) rfl (bj rfl hz57)) (k:=?_)))
    obtain ⟨z84, hz85, h⟩ := bnd h
    refine ecV [1, 0] (caV call10) (fun w hp => eH ho68 (⟨#[107]⟩ : ByteArray) (show (⟨#[107]⟩ : ByteArray).size ≤ lim by decide) (Sl.nil iU _ none) (Nat.zero_le 0) false (⟨#[118]⟩ : ByteArray) (show (⟨#[118]⟩ : ByteArray).size ≤ lim by decide) ho65 hp hz85) ?_
    rintro Γ86 _ _ hl87 ⟨row90, row92, A94, c95, rfl, rfl, hr91, hr93, hr96, hr97, _⟩
    refine cwV 77 [_, _, _] (mV (k:=sV exV (k:=sV exV (k:=?_))))
    refine alV zeroValue37 fun g98 => ?_
    refine stV 0 (.agg (Ver.cs A94 c95 z84.2.2.1).toArray) (Ver.cs A94 c95 z84.2.2.1).toArray sizeOf37 (k:=aV (k:=WR.done (WC.rs (sV (ay (v := (pq g49)) rfl (bj rfl hz57)) (k:=?_)))))
    obtain ⟨z99, hz100, h⟩ := bnd h
    refine ecV [1] (caV call11) (fun w hp => dc hr91 hp hz100) ?_
    rintro Γ101 _ _ hl102 ⟨A105, c106, rfl, rfl, hr107, _⟩
    refine cwV 82 [_, _, _, _] (mV (k:=sV exV (k:=sV exV (k:=?_))))
    refine alV zeroValue42 fun g108 => ?_
    refine stV 0 (.agg (Rec.cs A105 c106 z99.1).toArray) (Rec.cs A105 c106 z99.1).toArray sizeOf42 (k:=aV (k:=WR.done (WC.seq (WC.seq ?_))))
    refine leV fun h0109 => ?_
    refine eD (CC F Γ101 [[(g108, .cells (Rec.cs A105 c106 z99.1).toArray 42 (0, 0))], [(g98, .cells (Ver.cs A94 c95 z84.2.2.1).toArray 37 (0, 0))], [(g1, .cells (aa.cs Ac_2 cc_2 Ac_5 cc_5 c_).toArray 25 (0, 0))]]) (bo_ [0, 1, 2] gR h0109) fun k => ?_
    change WH _ _ _ _ (CC F Γ101 [_, _, _, _, _]) _ 22 _ _
    refine hV 0 k (q:=moV) (k:=hV 1 k (q:=bZ) (k:=hV 2 k (q:=moV) (k:=hV0 3 k (h:=fun hg110 => moV) (k:=hV0 4 k (h:=fun hg111 => bu rfl (grV hg111)) (k:=hV 5 k (q:=pkO) (k:=hV 6 k (q:=moV) (k:=hV0 7 k (h:=fun hg112 => ay (v := (pq g49)) rfl (bj rfl hz57)) (k:=?_))))))))
    refine hV0 8 k (h:=fun hg113 => ldaV 0 (Rec.cs A105 c106 z99.1) isAgg42 sizeOf42) (k:=hV0 9 k (h:=fun hg114 => q_fl 0 iJ) (k:=hV0 10 k (h:=fun hg115 => ldV 2 isAgg3 (v:=ii c_.self) (hx:=grV hg115)) (k:=?_)))
    refine (Bool.eq_false_or_eq_true (!((z84.2.2.2 != 0) || (!z99.2)))).elim (fun hb116 => ?_) (fun hb116 => ?_)
    ·
     have h := bt hb116 h
     refine wl_ 11 rfl ?_
     refine WR.sat (c0 := true) (g := ((z84.2.2.2 != 0) || (!z99.2))) rfl rfl rfl hb116 ?_
     rw [show gv (!((z84.2.2.2 != 0) || (!z99.2))) (ii c_.self) = ii c_.self from Ag hb116]
     refine bsV #[ii c_.self] 3 fun g117 => ?_
     refine WR.nil (nxV (bo_ [1, 2, 3] gR h0109) fun k => ?_)
     refine wl_ 12 rfl ?_
     refine WR.sat (c0 := true) (g := ((z84.2.2.2 != 0) || (!z99.2))) rfl rfl rfl hb116 ?_
     have ho118 : Own intT Γ101 3 [(g117, .cells #[ii c_.self] 3 (0, 0))] (some ⟨g117, 0, none⟩) 1 [c_.self] := Own.of_blockL (T := intT) (ys := [c_.self]) [[ii c_.self]] rfl (show 1 ≤ lim by decide) ⟨⟨rfl, hc_.1⟩, trivial⟩
     have hc123 := ho118.capz
     refine seR 0 [_, _, _, _, _, _] fun Γ119 hl120 hr121 => ?_
     have hs122 := ho118.sl hl120 hr121
     obtain ⟨z124, hz125, h⟩ := bnd h
     refine ecV [2, 3] (aR call12 rfl rfl (wF (grV hb116) (grV hb116) rfl)) (fun w hp => iT (hr91.mono (hl102.trans hl120)) z99.1 (Rec.fits_mono hr107 hl120) hs122 hc123 (hr93.mono (hl102.trans hl120)) hp hz125) ?_
     rintro Γ126 _ _ hl127 ⟨row130, row132, rfl, rfl, hr131, hr133, hr134, _⟩
     refine cwV 97 [_, _, _, _, _, _] ?_
     refine WR.nil (nxV (bo_ [3, 3, 3] (hl120.trans hl127) h0109) fun k => ?_)
     refine hV0 13 k (h:=fun hg135 => bZ) (k:=hV 14 k (q:=dK (v := .bool (z124.2.2 != 0)) rfl rfl (qV hb116) (grV hb116)) (k:=hV 15 k (q:=moV) (k:=hV0 16 k (h:=fun hg136 => ay (v := (pq g49)) rfl (bj rfl hz57)) (k:=hV0 18 k (h:=fun hg137 => q_fl 3 kb) (k:=hV0 19 k (h:=fun hg138 => ldV 2 isAgg3 (hx:=grV hg138)) (k:=?_))))))
     refine (Bool.eq_false_or_eq_true (!(z124.2.2 != 0))).elim (fun hb139 => ?_) (fun hb139 => ?_)
     ·
      have h := bt hb139 h
      refine wl_ 17 rfl ?_
      refine WR.sat (c0 := true) (g := (z124.2.2 != 0)) rfl rfl rfl hb139 ?_
      obtain ⟨z140, hz141, h⟩ := bnd h
      refine ecV [0] (aR call20 rfl rfl (mB (grV hb139))) (fun w hp => kD hr131 hp hz141) ?_
      rintro Γ142 _ _ hl143 ⟨rfl, rfl, hr146, _⟩
      refine cwV 102 [_, _, _, _, _, _] ?_
      refine WR.nil (nxV (bo_ [3, 3, 3] ((hl120.trans hl127).trans hl143) h0109) fun k => ?_)
      refine hV0 20 k (h:=fun hg147 => bB rfl rfl (grV hg147)) (k:=hV 21 k (q:=dK (v := .bool (decide (c_.cap < z140))) rfl rfl (qV hb139) (grV hb139)) (k:=?_))
      refine WH.done (by kernel_rfl) ?_
      change WC _ _ _ _ _ _
      refine ciV h (fun hb148 h => ?_) (fun hb148 h => ?_)
      ·
       refine WC.rs (aV (k:=WR.done ?_))
       exact WC.ret fun w hw => rq_ r h hF hw
      refine WC.skip (wc_ (WC.rs (sV (ay (v := (pq g49)) rfl (bj rfl hz57)) (k:=mV (k:=?_)))))
      obtain ⟨z149, hz150, h⟩ := bnd h
      refine ecV [0] (caV call15) (fun w hp => kn (hr131.mono hl143) (gt c_.links (((w64 acked).tmod (c_.links.length : Int)).toNat)) ((hc_.2.2.1.2.mono ((((((((hl9.trans hl35).trans hl44).trans hl62).trans hl87).trans hl102).trans hl120).trans hl127).trans hl143)).intT_at (bG hk60)).1 1 iV hp hz150) ?_
      rintro Γ151 _ _ hl152 ⟨A155, c156, row157, rfl, rfl, hr158, _⟩
      refine cwV 109 [_, _, _, _, _, _, _] (aV (k:=WR.done (WC.rs (mV (k:=sV (ab rfl underlying49) (k:=sV bp (k:=WR.done ?_)))))))
      refine ciV h (fun hb159 h => ?_) (fun hb159 h => ?_)
      ·
       refine WC.region ?_
       refine sV (ay (v := (pq g49)) rfl (bj rfl hz57)) (k:=mV (k:=mV (k:=?_)))
       obtain ⟨hk160, h⟩ := ai h
       refine sV (bb (i := 0) underlying49 sizeOf52 rfl rfl rfl (of_decide_eq_true hk160) (hr158.some_ (of_decide_eq_true hk160))) (k:=sV (b6 (0 * 4) oc rfl rfl (hr158.some_ (of_decide_eq_true hk160)) rfl) (k:=?_))
       obtain ⟨A161, c162, A163, c164, hx165⟩ := hr158.dqueue_EntryT_at 0
       refine sV (qf (c := 0) (v := ii (gt z149 0).seq) (i := 1) rfl (hx165 (of_decide_eq_true hk160)).2 rfl isAgg2 rfl rfl) (k:=?_)
       obtain ⟨z166, hz167, h⟩ := bnd h
       refine ecV [0, 1] (caV call21) (fun w hp => kF (hr131.mono (hl143.trans hl152)) (gt c_.links (((w64 acked).tmod (c_.links.length : Int)).toNat)) ((hc_.2.2.1.2.mono (((((((((hl9.trans hl35).trans hl44).trans hl62).trans hl87).trans hl102).trans hl120).trans hl127).trans hl143).trans hl152)).intT_at (bG hk60)).1 ((gt z149 0).seq) (hx165 (of_decide_eq_true hk160)).1.1 (hr133.mono (hl143.trans hl152)) hp hz167) ?_
       rintro Γ168 _ _ hl169 ⟨row172, row174, rfl, rfl, hr173, hr175, _⟩
       refine cwV 119 [_, _, _, _, _, _, _] ?_
       refine WR.nil ?_
       intro w hw
       exact ⟨z166.2.1, z166.1, Γ168, row174, row172, h, slK, (hw.on [1, 0, 4]), ((((((hl87.trans hl102).trans hl120).trans hl127).trans hl143).trans hl152).trans hl169), hr175, hr173, trivial⟩
      refine WC.skip ?_
      intro w hw
      exact ⟨z124.2.1, z124.1, Γ151, row132, row130, h, slK, (hw.on [2, 0, 4]), (((((hl87.trans hl102).trans hl120).trans hl127).trans hl143).trans hl152), (hr133.mono (hl143.trans hl152)), (hr131.mono (hl143.trans hl152)), trivial⟩
     have h := bf hb139 h
     refine hg0 (g := (z124.2.2 != 0)) (i := 17) (v := undef) rfl (by kernel_rfl) rfl rfl rfl rfl rfl (bo_ [3, 3, 3] (hl120.trans hl127) h0109) (ne hb139) ?_
     refine WH.env (v := undef) (ia hb139) ?_
     refine hg0 (g := (z124.2.2 != 0)) (i := 20) (v := undef) rfl (by kernel_rfl) rfl rfl rfl rfl rfl (bo_ [3, 3, 3] (hl120.trans hl127) h0109) (ne hb139) ?_
     refine WH.env (v := undef) (ia hb139) ?_
     refine hV 21 (bo_ [3, 3, 3] (hl120.trans hl127) h0109) (q:=eh (v := .bool true) rfl rfl (qP hb139) (by kernel_rfl)) (k:=?_)
     refine WH.done (by kernel_rfl) ?_
     change WC _ _ _ _ _ _
     refine WC.ctk (b := true) (by kernel_rfl) rfl ?_
     refine WC.rs (aV (k:=WR.done ?_))
     exact WC.ret fun w hw => rq_ r h hF hw
    have h := bf hb116 h
    refine hg0 (g := ((z84.2.2.2 != 0) || (!z99.2))) (i := 11) (v := undef) rfl (by kernel_rfl) rfl rfl rfl rfl rfl (bo_ [0, 1, 2] gR h0109) (ne hb116) ?_
    refine WH.env (v := undef) (ia hb116) ?_
    refine hg0 (g := ((z84.2.2.2 != 0) || (!z99.2))) (i := 12) (v := undef) rfl (by kernel_rfl) rfl rfl rfl rfl rfl (bo_ [0, 1, 2] gR h0109) (ne hb116) ?_
    refine WH.env (v := undef) (ia hb116) ?_
    refine hg0 (g := ((z84.2.2.2 != 0) || (!z99.2))) (i := 13) (v := undef) rfl (by kernel_rfl) rfl rfl rfl rfl rfl (bo_ [0, 1, 2] gR h0109) (ne hb116) ?_
    refine WH.env (v := undef) (ia hb116) ?_
    refine hV 14 (bo_ [0, 1, 2] gR h0109) (q:=eh (v := .bool true) rfl rfl (qP hb116) (by kernel_rfl)) (k:=hV 15 (bo_ [0, 1, 2] gR h0109) (q:=moV) (k:=?_))
    refine hg0 (g := true) (i := 16) (v := undef) rfl (by kernel_rfl) rfl rfl rfl rfl rfl (bo_ [0, 1, 2] gR h0109) (ne (nott rfl)) ?_
    refine WH.env (v := undef) (ia (nott rfl)) ?_
    refine hg0 (g := true) (i := 17) (v := undef) rfl (by kernel_rfl) rfl rfl rfl rfl rfl (bo_ [0, 1, 2] gR h0109) (ne (nott rfl)) ?_
    refine WH.env (v := undef) (ia (nott rfl)) ?_
    refine hg0 (g := true) (i := 18) (v := undef) rfl (by kernel_rfl) rfl rfl rfl rfl rfl (bo_ [0, 1, 2] gR h0109) (ne (nott rfl)) ?_
    refine WH.env (v := undef) (ia (nott rfl)) ?_
    refine hg0 (g := true) (i := 19) (v := undef) rfl (by kernel_rfl) rfl rfl rfl rfl rfl (bo_ [0, 1, 2] gR h0109) (ne (nott rfl)) ?_
    refine WH.env (v := undef) (ia (nott rfl)) ?_
    refine hg0 (g := true) (i := 20) (v := undef) rfl (by kernel_rfl) rfl rfl rfl rfl rfl (bo_ [0, 1, 2] gR h0109) (ne (nott rfl)) ?_
    refine WH.env (v := undef) (ia (nott rfl)) ?_
    refine hV 21 (bo_ [0, 1, 2] gR h0109) (q:=ot (v := .bool true) rfl rfl rfl) (k:=?_)
    refine WH.done (by kernel_rfl) ?_
    change WC _ _ _ _ _ _
    refine WC.ctk (b := true) (by kernel_rfl) rfl ?_
    refine WC.rs (aV (k:=WR.done ?_))
    exact WC.ret fun w hw => rq_ r h hF hw
   rintro σ w ⟨o78, o81, Γ76, row79, row82, h, hsl, hw, hl77, ho80, ho83, -⟩
   refine slV hsl hw [_, _, _] ?_; clear hw hsl
   refine WC.region ?_
   refine mV (k:=sV (aC rfl rfl rfl (k5 hl75 (iA _))) (k:=aV (k:=?_)))
   refine WR.nil ?_
   intro w hw
   exact ⟨hl75, (o78, o81), h, Γ76, row79, row82, slK, hw, (hl62.trans hl77), ho80, ho83, trivial⟩
  have h := hge73 (igei hb74)
  refine WC.exit ?_
  change WC _ _ _ _ _ _
  refine WC.rs (mV (k:=?_))
  obtain ⟨z176, hz177, h⟩ := bnd h
  refine ecV [0] (caV call22) (fun w hp => j7 ho65 hp hz177) ?_
  rintro Γ178 _ _ hl179 ⟨row182, rfl, rfl, hr183, _⟩
  refine cwV 121 [_, _, _] (WR.done (WC.rs (mV (k:=?_))))
  obtain ⟨z184, hz185, h⟩ := bnd h
  refine ecV [0] (caV call23) (fun w hp => ov hr183 0 iV 0 iV hp hz185) ?_
  rintro Γ186 _ _ hl187 ⟨row190, rfl, rfl, hr191, _⟩
  refine cwV 123 [_, _, _] (WR.done (WC.rs (mV (k:=sV (ldaV 2 (aa.cs Ac_2 cc_2 Ac_5 cc_5 c_) isAgg25 sizeOf25) (k:=?_)))))
  obtain ⟨z192, hz193, h⟩ := bnd h
  refine ecV [0] (caV call8) (fun w hp => k4 hr191 4096 iV c_ (aa.fits_mono hc_ (((((hl9.trans hl35).trans hl44).trans hl62).trans hl179).trans hl187)) hp hz193) ?_
  rintro Γ194 _ _ hl195 ⟨row198, g200, row201, rfl, rfl, hr199, hr202, hr203, _⟩
  refine cwV 127 [_, _, _, _] (mV (k:=sV exV (k:=sV exV (k:=aU (v := optp z192.2.1 g200) (k:=aV (k:=WR.done (WC.seq ?_)))))))
  refine WC.rs (mU (v := optp z192.2.1 g200) (k:=sV (pJ underlying27 rfl rfl rfl) (k:=mV (k:=vG0 (h:=fun hg204 => moV) (k:=vG0 (h:=fun hg205 => bZ rfl (grV hg205)) (k:=sV pkO (k:=WR.done ?_)))))))
  refine ciV h (fun hb206 h => ?_) (fun hb206 h => ?_)
  ·
   refine WC.rs (aV (k:=WR.done ?_))
   exact WC.ret fun w hw => rq_ r h hF hw
  obtain ⟨z207, hz208, h⟩ := bnd h
  have ho209 := ke hr202 hz208
  refine WC.skip (wc_ (WC.rs (sV (ay (v := (pq g200)) rfl (bj rfl hz208)) (k:=?_))))
  obtain ⟨z210, hz211, h⟩ := bnd h
  refine ecV [1] (caV call24) (fun w hp => fu ho209 hp hz211) ?_
  rintro Γ212 _ _ hl213 ⟨A216, c217, row218, rfl, rfl, hr219, _⟩
  refine cwV 137 [_, _, _, _, _] (aV (k:=WR.done (WC.rs (sV (q_fl 2 gx) (k:=sV (ldV 4 isAgg22) (k:=sV (ab rfl underlying22) (k:=sV hQ (k:=?_))))))))
  refine aV (k:=WR.done ?_)
  refine WC.cut (fun σ w => ∃ (want_220 : Int), bW c_ acked z192 z207 z210 want_220 = some r ∧ slots σ [(3, (pq g1)), (7, (pq g38)), (8, optp z192.2.1 g200), (10, ii (gt c_.links (((w64 acked).tmod (c_.links.length : Int)).toNat))), (17, .slice A216 z210.length c217), (18, ii want_220)] ∧ CC F Γ212 [row201, row218, row198, row67, [(g1, .cells (aa.cs Ac_2 cc_2 Ac_5 cc_5 c_).toArray 25 (0, 0))]] w ∧ I64 want_220 ∧ True) ?_ ?_
  ·
   refine WC.rs (mV (k:=sV (vZ rfl rfl rfl (by decide)) (k:=sV (gZ underlying3 underlying5) (k:=sV (q_fl 3 kb) (k:=sV (ldV 4 isAgg3) (k:=sV gm (k:=WR.done ?_)))))))
   refine ciV h (fun hb222 h => ?_) (fun hb222 h => ?_)
   ·
    refine WC.region ?_
    refine aV (k:=?_)
    refine WR.nil ?_
    intro w hw
    exact ⟨0, h, slK, hw, iV, trivial⟩
   refine WC.skip ?_
   intro w hw
   exact ⟨(w64 ((c_.links.length : Int) - 1)), h, slK, hw, (iA _), trivial⟩
  rintro σ w ⟨want_220, h, hsl, hw, hr221, -⟩
  refine slV hsl hw [_, _, _, _, _] ?_; clear hw hsl
  refine WC.seq (WC.rs (mV (k:=sV (ab rfl underlying22) (k:=mV (k:=sV bZ (k:=WR.done ?_))))))
  refine ciV h (fun hb223 h => ?_) (fun hb223 h => ?_)
  ·
   refine WC.rs (aV (k:=WR.done ?_))
   exact WC.ret fun w hw => rq_ r h hF hw
  refine WC.skip (wc_ (WC.seq (WC.rs (aV (k:=WR.done (WC.block ?_))))))
  refine WC.forI h (fun (i233 : Nat) (s : a6 × a7) σ w => match s with | (o226, o229) => ∃ (Γ224 : Gh), ∃ (row227 : Rowb), ∃ (row230 : Rowb), slots σ [(3, (pq g1)), (7, (pq g38)), (8, optp z192.2.1 g200), (10, ii (gt c_.links (((w64 acked).tmod (c_.links.length : Int)).toNat))), (17, .slice A216 z210.length c217), (19, ii (i233 : Int))] ∧ CC F Γ224 [row227, row218, row230, row67, [(g1, .cells (aa.cs Ac_2 cc_2 Ac_5 cc_5 c_).toArray 25 (0, 0))]] w ∧ Gh.le Γ212 Γ224 ∧ a6.ob (84, g38) Γ224 g200 row227 o226 ∧ a7.ob 93 Γ224 g38 row230 o229 ∧ True) ?_ ?_
  ·
   intro w hw
   exact ⟨Γ212, row201, row198, slK, hw, gR, (ho209.mono hl213), (hr199.mono hl213), trivial⟩
  rintro f232 i233 ⟨o226, o229⟩ σ w hi234 hlt235 hge236 ⟨Γ224, row227, row230, hsl, hw, hl225, ho228, ho231, -⟩
  refine slV hsl hw [_, _, _, _, _] ?_; clear hw hsl
  refine WC.seq (WC.rs (mV (k:=mV (k:=sV (ab rfl underlying22) (k:=sV aS (k:=WR.done ?_))))))
  refine coV (fun hb237 => ?_) (fun hb237 => ?_)
  ·
   have hl238 := ilt hb237
   have h := hlt235 hl238
   refine WC.skip (wc_ (WC.seq (WC.block (WC.rs (mV (k:=mV (k:=sV (bb (i := i233) underlying22 sizeOf3 rfl rfl rfl hl238 ((hr219.mono hl225).some_ hl238)) (k:=?_))))))))
   refine sV (qf (c := 0) (v := ii (gt z210 i233)) (i := 1) rfl ((hr219.mono hl225).intT_at hl238).2 rfl isAgg3 rfl rfl) (k:=mV (k:=sV bp (k:=mV (k:=vG0 (h:=fun hg239 => ay (v := (pq g200)) rfl (bj rfl hz208)) (k:=vG0 (h:=fun hg240 => moV) (k:=vG0 (h:=fun hg241 => moV) (k:=vG0 (h:=fun hg242 => bb (i := i233) underlying22 sizeOf3 rfl (grV hg242) (grV hg242) hl238 ((hr219.mono hl225).some_ hl238)) (k:=?_))))))))
   refine vG0 (h:=fun hg243 => qf (c := 0) (v := ii (gt z210 i233)) (i := 1) rfl ((hr219.mono hl225).intT_at hl238).2 rfl isAgg3 (grV hg243) rfl) (k:=?_)
   refine (Bool.eq_false_or_eq_true (!((gt z210 i233) == (gt c_.links (((w64 acked).tmod (c_.links.length : Int)).toNat))))).elim (fun hb244 => ?_) (fun hb244 => ?_)
   ·
    have h := bt hb244 h
    refine WR.sat (c0 := true) (g := ((gt z210 i233) == (gt c_.links (((w64 acked).tmod (c_.links.length : Int)).toNat)))) rfl rfl rfl hb244 ?_
    obtain ⟨z245, hz246, h⟩ := bnd h
    refine ecV [0, 1] (aR call25 rfl rfl (fh (grV hb244) (grV hb244))) (fun w hp => jT ho228 (gt z210 i233) ((hr219.mono hl225).intT_at hl238).1 ho231 hp hz246) ?_
    rintro Γ247 _ _ hl248 ⟨row251, row253, rfl, rfl, hr252, hr254, hr255, _⟩
    refine cwV 170 [_, _, _, _, _] ?_
    refine WR.sat (c0 := true) (g := ((gt z210 i233) == (gt c_.links (((w64 acked).tmod (c_.links.length : Int)).toNat)))) rfl rfl rfl hb244 ?_
    refine sV bZ (k:=sV (dK (v := .bool (z245.2.2 != 0)) rfl rfl (qV hb244) (by kernel_rfl)) (k:=WR.done ?_))
    refine ciV h (fun hb256 h => ?_) (fun hb256 h => ?_)
    ·
     refine WC.rs (aV (k:=WR.done ?_))
     exact WC.ret fun w hw => rq_ r h hF hw
    refine WC.skip (wc_ ?_)
    refine WC.region ?_
    refine mV (k:=sV (aC rfl rfl rfl (aP hl238 (hr219.mono hl225).le)) (k:=aV (k:=?_)))
    refine WR.nil ?_
    intro w hw
    exact ⟨hl238, (z245.1, z245.2.1), h, Γ247, row251, row253, slK, (hw.on [0, 1, 0, 0, 0]), (hl225.trans hl248), hr252, hr254, trivial⟩
   have h := bf hb244 h
   refine WR.unsat (c0 := true) (g := ((gt z210 i233) == (gt c_.links (((w64 acked).tmod (c_.links.length : Int)).toNat)))) rfl rfl rfl hb244 rfl ?_
   refine WR.unsat (c0 := true) (g := ((gt z210 i233) == (gt c_.links (((w64 acked).tmod (c_.links.length : Int)).toNat)))) rfl rfl rfl hb244 rfl ?_
   refine sV (eh (v := .bool true) rfl rfl (qP hb244) (by kernel_rfl)) (k:=WR.done ?_)
   refine WC.ctk (b := true) (by kernel_rfl) rfl ?_
   refine WC.rs (aV (k:=WR.done ?_))
   exact WC.ret fun w hw => rq_ r h hF hw
  have h := hge236 (ige hb237)
  refine WC.exit ?_
  change WC _ _ _ _ _ _
  refine WC.rs (mV (k:=sV (ldaV 4 (aa.cs Ac_2 cc_2 Ac_5 cc_5 c_) isAgg25 sizeOf25) (k:=?_)))
  obtain ⟨z257, hz258, h⟩ := bnd h
  refine ecV [2] (caV call8) (fun w hp => k4 ho231 4096 iV c_ (aa.fits_mono hc_ ((((((((hl9.trans hl35).trans hl44).trans hl62).trans hl179).trans hl187).trans hl195).trans hl213).trans hl225)) hp hz258) ?_
  rintro Γ259 _ _ hl260 ⟨row263, g265, row266, rfl, rfl, hr264, hr267, hr268, _⟩
  refine cwV 176 [_, _, _, _, _, _] (mV (k:=sV exV (k:=sV exV (k:=aU (v := optp z257.2.1 g265) (k:=aV (k:=WR.done (WC.rs ?_)))))))
  refine mV (k:=sV bp (k:=mV (k:=vG1 (h:=fun hg269 => ay (v := optp z257.2.1 g265) rfl (by kernel_rfl)) (k:=vG1 (h:=fun hg270 => wL underlying27 rfl (grV hg270) rfl) (k:=sV pkA (k:=mV (k:=vG1 (h:=fun hg271 => ay (v := optp z257.2.1 g265) rfl (by kernel_rfl)) (k:=?_))))))))
  refine (Bool.eq_false_or_eq_true ((z257.2.2 == 0) && (!(Option.isNone z257.2.1)))).elim (fun hb272 => ?_) (fun hb272 => ?_)
  ·
   have h := bt hb272 h
   obtain ⟨z273, hz274, h⟩ := bnd h
   have ho275 := ke hr267 hz274
   refine WR.sat (c0 := true) (g := ((z257.2.2 == 0) && (!(Option.isNone z257.2.1)))) rfl rfl rfl hb272 ?_
   obtain ⟨z276, hz277, h⟩ := bnd h
   refine ecV [1] (aR call24 rfl rfl (mB (bj (grV hb272) hz274))) (fun w hp => fu ho275 hp hz277) ?_
   rintro Γ278 _ _ hl279 ⟨A282, c283, row284, rfl, rfl, hr285, _⟩
   refine cwV 187 [_, _, _, _, _, _, _] ?_
   refine WR.sat (c0 := true) (g := ((z257.2.2 == 0) && (!(Option.isNone z257.2.1)))) rfl rfl rfl hb272 ?_
   refine sV (ab rfl underlying22) (k:=?_)
   refine WR.sat (c0 := true) (g := ((z257.2.2 == 0) && (!(Option.isNone z257.2.1)))) rfl rfl rfl hb272 ?_
   refine sV bp (k:=sV (eh (v := .bool ((z276.length : Int) == 0)) rfl rfl hb272 (by kernel_rfl)) (k:=aV (k:=WR.done ?_)))
   exact WC.ret fun w hw => rq_ r h hF hw
  have h := bf hb272 h
  refine WR.unsat (c0 := true) (g := ((z257.2.2 == 0) && (!(Option.isNone z257.2.1)))) rfl rfl rfl hb272 rfl ?_
  refine WR.unsat (c0 := true) (g := ((z257.2.2 == 0) && (!(Option.isNone z257.2.1)))) rfl rfl rfl hb272 rfl ?_
  refine WR.unsat (c0 := true) (g := ((z257.2.2 == 0) && (!(Option.isNone z257.2.1)))) rfl rfl rfl hb272 rfl ?_
  refine sV (dK (v := .bool false) rfl rfl hb272 (by kernel_rfl)) (k:=aV (k:=WR.done ?_))
  exact WC.ret fun w hw => rq_ r h hF hw
 have h := bf hb5 h
 refine WR.unsat (c0 := true) (g := (!z2)) rfl rfl rfl hb5 rfl ?_
 refine WR.unsat (c0 := true) (g := (!z2)) rfl rfl rfl hb5 rfl ?_
 refine WR.unsat (c0 := true) (g := (!z2)) rfl rfl rfl hb5 rfl ?_
 refine sV (eh (v := .bool true) rfl rfl (qP hb5) (by kernel_rfl)) (k:=mV (k:=?_))
 refine WR.unsat (c0 := true) (g := true) rfl rfl rfl (nott rfl) rfl ?_
 refine WR.unsat (c0 := true) (g := true) rfl rfl rfl (nott rfl) rfl ?_
 refine WR.unsat (c0 := true) (g := true) rfl rfl rfl (nott rfl) rfl ?_
 refine sV (ot (v := .bool true) rfl rfl rfl) (k:=mV (k:=?_))
 refine WR.unsat (c0 := true) (g := true) rfl rfl rfl (nott rfl) rfl ?_
 refine WR.unsat (c0 := true) (g := true) rfl rfl rfl (nott rfl) rfl ?_
 refine WR.unsat (c0 := true) (g := true) rfl rfl rfl (nott rfl) rfl ?_
 refine sV (ot (v := .bool true) rfl rfl rfl) (k:=mV (k:=?_))
 refine WR.unsat (c0 := true) (g := true) rfl rfl rfl (nott rfl) rfl ?_
 refine WR.unsat (c0 := true) (g := true) rfl rfl rfl (nott rfl) rfl ?_
 refine WR.unsat (c0 := true) (g := true) rfl rfl rfl (nott rfl) rfl ?_
 refine WR.unsat (c0 := true) (g := true) rfl rfl rfl (nott rfl) rfl ?_
 refine sV (ot (v := .bool true) rfl rfl rfl) (k:=WR.done ?_)
 refine WC.ctk (b := true) (by kernel_rfl) rfl ?_
 refine WC.rs ?_
 obtain ⟨z286, hz287, h⟩ := bnd h
 refine vqV (caV call6) (fun w hw => ip (Γ := Gh.all w)  (Sat.all w) hz287) (k:=aV (k:=WR.done ?_))
 exact WC.ret fun w hw => rq_ r h hF hw
end Fw
end Go.Proofs.YtlfmppjcgaekhaaGreat
