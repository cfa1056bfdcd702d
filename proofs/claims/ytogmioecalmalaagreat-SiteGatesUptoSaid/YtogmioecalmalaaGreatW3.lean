/- Walks through the functions that the law reaches (printed by a program). No condition. -/
import Derived.Test.YtogmioecalmalaaGreatW2
namespace Go.Proofs.YtogmioecalmalaaGreat
namespace Fw
set_option linter.unusedVariables false
set_option linter.unusedSimpArgs false
set_option linter.unusedSectionVars false
set_option maxRecDepth 100000
set_option maxHeartbeats 400000
open Go.RowKit
open Go.Proofs.Tryz
variable {Γ : Gh} {w0 : World}
theorem jc {Atoken : Option Addr} {ctoken : Nat} {token : List UInt8} (htoken : Sl ar Γ Atoken token) (htokenc : token.length ≤ ctoken) {Apast : Option Addr} {cpast : Nat} {past : List Span} (hpast : Sl aW Γ Apast past) (hpastc : past.length ≤ cpast) (key : ByteArray) (hkey : key.size ≤ lim) (hs : Sat Γ w0) {r : Bool} (h : dz token past key = some r) : CQ Tryz.prog 5 #[.slice Atoken token.length ctoken, .slice Apast past.length cpast, .string key] w0 (.bool r) := by
 refine goQ [6] func5 ntmps5 results5 hs fun F hF => ?_
 refine WC.rs (aV (k:=WR.done (WC.seq (WC.rs ?_))))
 obtain ⟨z1, hz2, h⟩ := bnd h
 refine vqV (caV call10) (fun w hw => ll (Γ := Gh.all w)  (Sat.all w) hz2) (k:=sV dJ (k:=WR.done ?_))
 refine ciV h (fun hb3 h => ?_) (fun hb3 h => ?_)
 ·
  refine WC.rs (aV (k:=WR.done ?_))
  exact WC.ret fun w hw => rq_ r h hF hw
 refine WC.skip (wc_ (WC.rs ?_))
 obtain ⟨z4, hz5, h⟩ := bnd h
 refine ecV [] (caV call12) (fun w hp => kZ 2 iV hp hz5) ?_
 rintro Γ6 _ _ hl7 ⟨A10, c11, A12, c13, rfl, rfl, hr14, _⟩
 refine cwV 23 [] ?_
 refine alV zeroValue25 fun g15 => ?_
 refine stV 0 (.agg (aC.cs A10 c11 A12 c13 z4).toArray) (aC.cs A10 c11 A12 c13 z4).toArray sizeOf25 (k:=WR.done (WC.rs (sV (q_fl 16 iX) (k:=stV 0 (ii 4) #[ii z4.sites, .slice A10 z4.links.length c11, ii z4.nodes, .slice A12 z4.members.length c13, ii z4.n, ii z4.r, ii z4.w_, ii z4.group, .string z4.secret, ii z4.room, ii z4.seg, ii z4.cap, ii z4.pend, ii z4.wait, ii z4.timeout, ii z4.hintAfter, ii 4] sizeOf2 (k:=WR.done (WC.seq ?_))))))
 refine leV fun h016 => ?_
 refine dM (CC F Γ6 [[(g15, .cells #[ii z4.sites, .slice A10 z4.links.length c11, ii z4.nodes, .slice A12 z4.members.length c13, ii z4.n, ii z4.r, ii z4.w_, ii z4.group, .string z4.secret, ii z4.room, ii z4.seg, ii z4.cap, ii z4.pend, ii z4.wait, ii z4.timeout, ii z4.hintAfter, ii 4] 25 (0, 0))]]) (bo_ [0] gR h016) fun k => ?_
 change WH _ _ _ _ (CC F Γ6 [_]) _ 8 _ _
 refine hV 0 k (q:=ldaV 0 [ii z4.sites, .slice A10 z4.links.length c11, ii z4.nodes, .slice A12 z4.members.length c13, ii z4.n, ii z4.r, ii z4.w_, ii z4.group, .string z4.secret, ii z4.room, ii z4.seg, ii z4.cap, ii z4.pend, ii z4.wait, ii z4.timeout, ii z4.hintAfter, ii 4] isAgg25 sizeOf25) (k:=wl_ 1 rfl ?_)
 obtain ⟨z17, hz18, h⟩ := bnd h
 refine ecV [] (caV call8) (fun w hp => sQ 65536 iV hp hz18) ?_
 rintro Γ19 _ _ hl20 ⟨g23, row24, rfl, rfl, hr25, _⟩
 refine cwV 27 [_, _] ?_
 refine WR.nil (nxV (bo_ [1] hl20 h016) fun k => ?_)
 refine wl_ 2 rfl ?_
 obtain ⟨z26, hz27, h⟩ := bnd h
 refine ecV [0] (caV call7) (fun w hp => rI (⟨z4.sites, z4.links, z4.nodes, z4.members, z4.n, z4.r, z4.w_, z4.group, z4.secret, z4.room, z4.seg, z4.cap, z4.pend, z4.wait, z4.timeout, z4.hintAfter, 4⟩ : aC) ⟨hr14.1, ⟨hr14.2.1.1, (hr14.2.1.2.mono hl20)⟩, hr14.2.2.1, ⟨hr14.2.2.2.1.1, (hr14.2.2.2.1.2.mono hl20)⟩, hr14.2.2.2.2.1, hr14.2.2.2.2.2.1, hr14.2.2.2.2.2.2.1, hr14.2.2.2.2.2.2.2.1, hr14.2.2.2.2.2.2.2.2.1, hr14.2.2.2.2.2.2.2.2.2.1, hr14.2.2.2.2.2.2.2.2.2.2.1, hr14.2.2.2.2.2.2.2.2.2.2.2.1, hr14.2.2.2.2.2.2.2.2.2.2.2.2.1, hr14.2.2.2.2.2.2.2.2.2.2.2.2.2.1, hr14.2.2.2.2.2.2.2.2.2.2.2.2.2.2.1, hr14.2.2.2.2.2.2.2.2.2.2.2.2.2.2.2.1, iV⟩ 1 iV 0 iV hr25 hp hz27) ?_
 rintro Γ28 _ _ hl29 ⟨row32, g34, row35, rfl, rfl, hr33, hr36, hr37, _⟩
 refine cwV 28 [_, _, _] ?_
 refine WR.nil (nxV (bo_ [2] (hl20.trans hl29) h016) fun k => ?_)
 refine hV 3 k (q:=moV) (k:=hV 4 k (q:=exV) (k:=hV 5 k (q:=exV) (k:=hV 6 k (q:=fN (v := optp z26.2.1 g34) rfl (by kernel_rfl)) (k:=hV 7 k (q:=aoV) (k:=?_)))))
 refine WH.done (by kernel_rfl) ?_
 change WC _ _ _ _ _ _
 refine WC.seq (WC.rs (mU (v := optp z26.2.1 g34) (k:=sV (uI underlying26 rfl rfl rfl) (k:=mV (k:=vG0 (h:=fun hg38 => moV) (k:=vG0 (h:=fun hg39 => ci rfl (grV hg39)) (k:=sV pkO (k:=?_))))))))
 refine WR.done ?_
 refine ciV h (fun hb40 h => ?_) (fun hb40 h => ?_)
 ·
  refine WC.rs (aV (k:=WR.done ?_))
  exact WC.ret fun w hw => rq_ r h hF hw
 obtain ⟨z41, hz42, h⟩ := bnd h
 have ho43 := jn hr36 hz42
 refine WC.skip (wc_ (WC.rs (sV (q_fl 8 jJ) (k:=sV (ldV 2 isAgg9) (k:=sV (q_fl 7 lI) (k:=sV (ldV 2 isAgg2) (k:=mV (k:=?_))))))))
 obtain ⟨z44, hz45, h⟩ := bnd h
 refine ecV [] (caV call19) (fun w hp => lR z4.secret hr14.2.2.2.2.2.2.2.2.1 z4.group hr14.2.2.2.2.2.2.2.1 (hpast.mono ((hl7.trans hl20).trans hl29)) hpastc hp hz45) ?_
 rintro Γ46 _ _ hl47 ⟨A50, c51, row52, rfl, rfl, hr53, hr54, _⟩
 refine cwV 43 [_, _, _, _] (mV (k:=sV exV (k:=sV exV (k:=aV (k:=aV (k:=WR.done (WC.rs ?_)))))))
 refine mV (k:=mV (k:=?_))
 have hc59 := hr53.capz
 refine seR 0 [_, _, _, _] fun Γ55 hl56 hr57 => ?_
 have hs58 := hr53.sl hl56 hr57
 refine bsV #[.slice Atoken token.length ctoken, .slice A50 z44.1.length c51] 61 fun g60 => ?_
 refine aV (k:=WR.done (WC.seq (WC.rs (aV (k:=WR.done (WC.block ?_))))))
 have ho61 : Own (slT ar) Γ55 61 [(g60, .cells #[.slice Atoken token.length ctoken, .slice A50 z44.1.length c51] 61 (0, 0))] (some ⟨g60, 0, none⟩) 2 [token, z44.1] := Own.of_blockL (T := (slT ar)) (ys := [token, z44.1]) [[.slice Atoken token.length ctoken], [.slice A50 z44.1.length c51]] rfl (show 2 ≤ lim by decide) ⟨⟨Atoken, ctoken, rfl, htokenc, (htoken.mono ((((hl7.trans hl20).trans hl29).trans hl47).trans hl56))⟩, ⟨A50, c51, rfl, hc59, hs58⟩, trivial⟩
 refine WC.forU h (fun (i65 : Nat) (s : Unit) σ w => match s with | () => ∃ (Γ62 : Gh), slots σ [(2, .string key), (7, (pq g15)), (8, optp z26.2.1 g34), (11, ii z44.2), (12, .slice (some ⟨g60, 0, none⟩) 2 2), (13, ii (i65 : Int))] ∧ CC F Γ62 [[(g60, .cells #[.slice Atoken token.length ctoken, .slice A50 z44.1.length c51] 61 (0, 0))], row32, row35, [(g15, .cells #[ii z4.sites, .slice A10 z4.links.length c11, ii z4.nodes, .slice A12 z4.members.length c13, ii z4.n, ii z4.r, ii z4.w_, ii z4.group, .string z4.secret, ii z4.room, ii z4.seg, ii z4.cap, ii z4.pend, ii z4.wait, ii z4.timeout, ii z4.hintAfter, ii 4] 25 (0, 0))]] w ∧ Gh.le Γ55 Γ62 ∧ True) ?_ ?_
 ·
  intro w hw
  exact ⟨Γ55, slK, (hw.on [0, 1, 1, 1]), gR, trivial⟩
 rintro f64 i65 ⟨⟩ σ w hi66 hlt67 hge68 ⟨Γ62, hsl, hw, hl63, -⟩
 refine slV hsl hw [_, _, _, _] ?_; clear hw hsl
 refine WC.seq (WC.rs (mV (k:=sV aI (k:=WR.done ?_))))
 refine coV (fun hb69 => ?_) (fun hb69 => ?_)
 ·
  have hl70 := ilt hb69
  have h := hlt67 hl70
  refine WC.skip (wc_ ?_)
  refine WC.cut (fun σ w => ∃ (Γ71 : Gh), bL f64  = some r ∧ slots σ [(2, .string key), (7, (pq g15)), (8, optp z26.2.1 g34), (11, ii z44.2), (12, .slice (some ⟨g60, 0, none⟩) 2 2), (13, ii (i65 : Int))] ∧ CC F Γ71 [[(g60, .cells #[.slice Atoken token.length ctoken, .slice A50 z44.1.length c51] 61 (0, 0))], row32, row35, [(g15, .cells #[ii z4.sites, .slice A10 z4.links.length c11, ii z4.nodes, .slice A12 z4.members.length c13, ii z4.n, ii z4.r, ii z4.w_, ii z4.group, .string z4.secret, ii z4.room, ii z4.seg, ii z4.cap, ii z4.pend, ii z4.wait, ii z4.timeout, ii z4.hintAfter, ii 4] 25 (0, 0))]] w ∧ Gh.le Γ62 Γ71 ∧ True) ?_ ?_
  ·
   refine WC.block (WC.seq ?_)
   refine leV fun h073 => ?_
   refine dM (CC F Γ62 [[(g60, .cells #[.slice Atoken token.length ctoken, .slice A50 z44.1.length c51] 61 (0, 0))], [(g15, .cells #[ii z4.sites, .slice A10 z4.links.length c11, ii z4.nodes, .slice A12 z4.members.length c13, ii z4.n, ii z4.r, ii z4.w_, ii z4.group, .string z4.secret, ii z4.room, ii z4.seg, ii z4.cap, ii z4.pend, ii z4.wait, ii z4.timeout, ii z4.hintAfter, ii 4] 25 (0, 0))]]) (bo_ [0, 2] gR h073) fun k => ?_
   change WH _ _ _ _ (CC F Γ62 [_, _, _, _]) _ 14 _ _
   refine hV 0 k (q:=q_fl 8 jJ) (k:=hV 1 k (q:=ldV 1 isAgg9) (k:=hV 2 k (q:=q_fl 7 lI) (k:=hV 3 k (q:=ldV 1 isAgg2) (k:=hV 4 k (q:=moV) (k:=hV 5 k (q:=moV) (k:=hV 6 k (q:=bB (i := i65) underlying69 sizeOf61 rfl rfl rfl hl70 ((ho61.mono hl63).some_ (ltq hl70 rfl.symm))) (k:=?_)))))))
   obtain ⟨A74, c75, hx76⟩ := (ho61.mono hl63).slT_at i65
   refine hV 7 k (q:=nw (c := 0) (v := .slice A74 (gt [token, z44.1] i65).length c75) (i := 0) rfl (hx76 (ltq hl70 rfl.symm)).2 rfl isAgg61 rfl rfl) (k:=wl_ 8 rfl ?_)
   obtain ⟨z77, hz78, h⟩ := bnd h
   refine ecV [] (caV call20) (fun w hp => lE z4.secret hr14.2.2.2.2.2.2.2.2.1 z4.group hr14.2.2.2.2.2.2.2.1 (hx76 (ltq hl70 rfl.symm)).1.2 (hx76 (ltq hl70 rfl.symm)).1.1 hp hz78) ?_
   rintro Γ79 _ _ hl80 ⟨A83, c84, row85, rfl, rfl, hr86, hr87, _⟩
   refine cwV 62 [_, _, _, _, _] ?_
   refine WR.nil (nxV (bo_ [1, 3] hl80 h073) fun k => ?_)
   refine hV 9 k (q:=moV) (k:=hV 10 k (q:=exV) (k:=hV 11 k (q:=exV) (k:=hV 12 k (q:=aoV) (k:=hV 13 k (q:=aoV) (k:=?_)))))
   refine WH.done (by kernel_rfl) ?_
   change WC _ _ _ _ _ _
   refine WC.rs (mV (k:=aV (k:=WR.done ?_)))
   refine WC.cut (fun σ w => ∃ (want_88 : Int), aT token key z41 z44 f64 i65 want_88 = some r ∧ slots σ [(2, .string key), (7, (pq g15)), (8, optp z26.2.1 g34), (11, ii z44.2), (12, .slice (some ⟨g60, 0, none⟩) 2 2), (13, ii (i65 : Int)), (16, ii want_88)] ∧ CC F Γ79 [[(g60, .cells #[.slice Atoken token.length ctoken, .slice A50 z44.1.length c51] 61 (0, 0))], row32, row35, [(g15, .cells #[ii z4.sites, .slice A10 z4.links.length c11, ii z4.nodes, .slice A12 z4.members.length c13, ii z4.n, ii z4.r, ii z4.w_, ii z4.group, .string z4.secret, ii z4.room, ii z4.seg, ii z4.cap, ii z4.pend, ii z4.wait, ii z4.timeout, ii z4.hintAfter, ii 4] 25 (0, 0))]] w ∧ I64 want_88 ∧ True) ?_ ?_
   ·
    refine WC.rs (mV (k:=sV dl (k:=mV (k:=?_))))
    refine (Bool.eq_false_or_eq_true (z77.2 == 0)).elim (fun hb90 => ?_) (fun hb90 => ?_)
    ·
     have h := bt hb90 h
     refine WR.sat (c0 := true) (g := (z77.2 == 0)) rfl rfl rfl hb90 ?_
     refine bsV #[ii 4, ii 4] 2 fun g91 => ?_
     refine WR.sat (c0 := true) (g := (z77.2 == 0)) rfl rfl rfl hb90 ?_
     refine mV (k:=?_)
     refine WR.sat (c0 := true) (g := (z77.2 == 0)) rfl rfl rfl hb90 ?_
     have ho92 : Own intT Γ79 2 [(g91, .cells #[ii 4, ii 4] 2 (0, 0))] (some ⟨g91, 0, none⟩) 2 [4, 4] := Own.of_blockL (T := intT) (ys := [4, 4]) [[ii 4], [ii 4]] rfl (show 2 ≤ lim by decide) ⟨⟨rfl, iV⟩, ⟨rfl, iV⟩, trivial⟩
     obtain ⟨z93, hz94, h⟩ := bnd h
     refine vqV (caV call21) (fun w hw => l4 (Γ := Gh.all w) (ho92.sl hw.sat.le_all (hw.ra 0 rfl)) ho92.capz (hr86.sl hw.sat.le_all (hw.ra 1 rfl)) hr86.capz (Sat.all w) hz94) (k:=?_)
     refine WR.sat (c0 := true) (g := (z77.2 == 0)) rfl rfl rfl hb90 ?_
     refine sV dJ (k:=sV (k6 (v := .bool (!z93)) rfl rfl hb90 (by kernel_rfl)) (k:=WR.done ?_))
     refine ciV h (fun hb95 h => ?_) (fun hb95 h => ?_)
     ·
      refine WC.region ?_
      refine aV (k:=?_)
      refine WR.nil ?_
      intro w hw
      exact ⟨200, h, slK, (hw.on [2, 2, 2, 2]), iV, trivial⟩
     refine WC.skip ?_
     intro w hw
     exact ⟨z77.2, h, slK, (hw.on [2, 2, 2, 2]), hr87, trivial⟩
    have h := bf hb90 h
    refine WR.unsat (c0 := true) (g := (z77.2 == 0)) rfl rfl rfl hb90 rfl ?_
    refine WR.unsat (c0 := true) (g := (z77.2 == 0)) rfl rfl rfl hb90 rfl ?_
    refine WR.unsat (c0 := true) (g := (z77.2 == 0)) rfl rfl rfl hb90 rfl ?_
    refine WR.unsat (c0 := true) (g := (z77.2 == 0)) rfl rfl rfl hb90 rfl ?_
    refine sV (iR (v := .bool false) rfl rfl hb90 (by kernel_rfl)) (k:=WR.done ?_)
    refine WC.cfk (b := false) (by kernel_rfl) rfl ?_
    refine WC.skip ?_
    intro w hw
    exact ⟨z77.2, h, slK, (hw.on [1, 1, 1, 1]), hr87, trivial⟩
   rintro σ w ⟨want_88, h, hsl, hw, hr89, -⟩
   refine slV hsl hw [_, _, _, _] ?_; clear hw hsl
   refine WC.cut (fun σ w => ∃ (want_96 : Int), bj token key z41 z44 f64 i65 want_96 = some r ∧ slots σ [(2, .string key), (7, (pq g15)), (8, optp z26.2.1 g34), (11, ii z44.2), (12, .slice (some ⟨g60, 0, none⟩) 2 2), (13, ii (i65 : Int)), (16, ii want_96)] ∧ CC F Γ79 [[(g60, .cells #[.slice Atoken token.length ctoken, .slice A50 z44.1.length c51] 61 (0, 0))], row32, row35, [(g15, .cells #[ii z4.sites, .slice A10 z4.links.length c11, ii z4.nodes, .slice A12 z4.members.length c13, ii z4.n, ii z4.r, ii z4.w_, ii z4.group, .string z4.secret, ii z4.room, ii z4.seg, ii z4.cap, ii z4.pend, ii z4.wait, ii z4.timeout, ii z4.hintAfter, ii 4] 25 (0, 0))]] w ∧ I64 want_96 ∧ True) ?_ ?_
   ·
    refine WC.rs (mV (k:=sV qD (k:=mV (k:=vG0 (h:=fun hg98 => moV) (k:=vG0 (h:=fun hg99 => aQ rfl underlying9 (grV hg99)) (k:=vG0 (h:=fun hg100 => bJ rfl (grV hg100)) (k:=sV pkO (k:=?_))))))))
    refine WR.done ?_
    refine ciV h (fun hb101 h => ?_) (fun hb101 h => ?_)
    ·
     refine WC.region ?_
     refine aV (k:=?_)
     refine WR.nil ?_
     intro w hw
     exact ⟨1, h, slK, hw, iV, trivial⟩
    refine WC.skip ?_
    intro w hw
    exact ⟨want_88, h, slK, hw, hr89, trivial⟩
   rintro σ w ⟨want_96, h, hsl, hw, hr97, -⟩
   refine slV hsl hw [_, _, _, _] ?_; clear hw hsl
   refine WC.seq (WC.rs (mV (k:=sV dl (k:=WR.done ?_))))
   refine ciV h (fun hb102 h => ?_) (fun hb102 h => ?_)
   ·
    refine WC.exit ?_
    intro w hw
    exact ⟨Γ79, h, slK, hw, hl80, trivial⟩
   refine WC.skip (wc_ (WC.rs (sV (cI (v := (pq g34)) rfl (ft rfl hz42)) (k:=mV (k:=mV (k:=sV (bB (i := i65) underlying69 sizeOf61 rfl rfl rfl hl70 ((ho61.mono (hl63.trans hl80)).some_ (ltq hl70 rfl.symm))) (k:=?_)))))))
   obtain ⟨A103, c104, hx105⟩ := (ho61.mono (hl63.trans hl80)).slT_at i65
   refine sV (nw (c := 0) (v := .slice A103 (gt [token, z44.1] i65).length c104) (i := 0) rfl (hx105 (ltq hl70 rfl.symm)).2 rfl isAgg61 rfl rfl) (k:=mV (k:=?_))
   obtain ⟨z106, hz107, h⟩ := bnd h
   refine ecV [2] (caV call22) (fun w hp => nC (ho43.mono (((hl47.trans hl56).trans hl63).trans hl80)) 1 iV (hx105 (ltq hl70 rfl.symm)).1.2 (hx105 (ltq hl70 rfl.symm)).1.1 key hkey hp hz107) ?_
   rintro Γ108 _ _ hl109 ⟨A112, c113, row114, rfl, rfl, hr115, hr116, _⟩
   refine cwV 90 [_, _, _, _, _] (mV (k:=sV exV (k:=sV exV (k:=aV (k:=aV (k:=WR.done (WC.rs ?_)))))))
   refine sV (cI (v := (pq g34)) rfl (ft rfl hz42)) (k:=mV (k:=mV (k:=sV (bB (i := i65) underlying69 sizeOf61 rfl rfl rfl hl70 ((ho61.mono ((hl63.trans hl80).trans hl109)).some_ (ltq hl70 rfl.symm))) (k:=sV (nw (c := 0) (v := .slice A103 (gt [token, z44.1] i65).length c104) (i := 2) rfl (hx105 (ltq hl70 rfl.symm)).2 rfl isAgg61 rfl rfl) (k:=mV (k:=?_))))))
   obtain ⟨z117, hz118, h⟩ := bnd h
   refine ecV [0] (caV call13) (fun w hp => nJ (ho43.mono ((((hl47.trans hl56).trans hl63).trans hl80).trans hl109)) 2 iV ((hx105 (ltq hl70 rfl.symm)).1.2.mono hl109) (hx105 (ltq hl70 rfl.symm)).1.1 key hkey (⟨#[118]⟩ : ByteArray) (show (⟨#[118]⟩ : ByteArray).size ≤ lim by decide) false hp hz118) ?_
   rintro Γ119 _ _ hl120 ⟨A123, c124, row125, rfl, rfl, hr126, hr127, _⟩
   refine cwV 100 [_, _, _, _, _, _] (mV (k:=sV exV (k:=sV exV (k:=aV (k:=aV (k:=WR.done (WC.rs ?_)))))))
   refine mV (k:=mV (k:=sV ci (k:=mV (k:=vG0 (h:=fun hg128 => moV) (k:=vG0 (h:=fun hg129 => moV) (k:=vG0 (h:=fun hg130 => ci rfl (grV hg130) (grV hg130)) (k:=sV pkO (k:=?_))))))))
   refine mV (k:=vG0 (h:=fun hg131 => moV) (k:=vG0 (h:=fun hg132 => ai rfl underlying37 (grV hg132)) (k:=vG0 (h:=fun hg133 => ci rfl (grV hg133)) (k:=sV pkO (k:=mV (k:=vG0 (h:=fun hg134 => moV) (k:=vG0 (h:=fun hg135 => ai rfl underlying37 (grV hg135)) (k:=?_))))))))
   refine vG0 (h:=fun hg136 => ci rfl (grV hg136)) (k:=sV pkO (k:=mV (k:=vG0 (h:=fun hg137 => cI (v := (pq g34)) rfl (ft rfl hz42)) (k:=?_))))
   refine (Bool.eq_false_or_eq_true (!((((z106.2 != want_96) || (z117.2 != want_96)) || ((z106.1.length : Int) != 0)) || ((z117.1.length : Int) != 0)))).elim (fun hb138 => ?_) (fun hb138 => ?_)
   ·
    have h := bt hb138 h
    refine WR.sat (c0 := true) (g := ((((z106.2 != want_96) || (z117.2 != want_96)) || ((z106.1.length : Int) != 0)) || ((z117.1.length : Int) != 0))) rfl rfl rfl hb138 ?_
    obtain ⟨z139, hz140, h⟩ := bnd h
    refine ecV [0] (ew call16 rfl rfl (nh (grV hb138))) (fun w hp => k9 (ho43.mono (((((hl47.trans hl56).trans hl63).trans hl80).trans hl109).trans hl120)) hp hz140) ?_
    rintro Γ141 _ _ hl142 ⟨A145, c146, row147, rfl, rfl, hr148, _⟩
    refine cwV 123 [_, _, _, _, _, _, _] ?_
    refine WR.sat (c0 := true) (g := ((((z106.2 != want_96) || (z117.2 != want_96)) || ((z106.1.length : Int) != 0)) || ((z117.1.length : Int) != 0))) rfl rfl rfl hb138 ?_
    refine sV (ai rfl underlying59) (k:=?_)
    refine WR.sat (c0 := true) (g := ((((z106.2 != want_96) || (z117.2 != want_96)) || ((z106.1.length : Int) != 0)) || ((z117.1.length : Int) != 0))) rfl rfl rfl hb138 ?_
    refine sV ci (k:=sV (iR (v := .bool ((z139.length : Int) != 0)) rfl rfl (vS hb138) (by kernel_rfl)) (k:=mV (k:=vG0 (h:=fun hg149 => cI (v := (pq g34)) rfl (ft rfl hz42)) (k:=?_))))
    refine (Bool.eq_false_or_eq_true (!((z139.length : Int) != 0))).elim (fun hb150 => ?_) (fun hb150 => ?_)
    ·
     have h := bt hb150 h
     refine WR.sat (c0 := true) (g := ((z139.length : Int) != 0)) rfl rfl rfl hb150 ?_
     obtain ⟨z151, hz152, h⟩ := bnd h
     refine ecV [0] (ew call23 rfl rfl (nh (grV hb150))) (fun w hp => mM (ho43.mono ((((((hl47.trans hl56).trans hl63).trans hl80).trans hl109).trans hl120).trans hl142)) hp hz152) ?_
     rintro Γ153 _ _ hl154 ⟨rfl, rfl, _⟩
     refine cwV 129 [_, _, _, _, _, _, _] ?_
     refine WR.sat (c0 := true) (g := ((z139.length : Int) != 0)) rfl rfl rfl hb150 ?_
     refine sV dJ (k:=sV (iR (v := .bool (!z151)) rfl rfl (vS hb150) (by kernel_rfl)) (k:=WR.done ?_))
     refine ciV h (fun hb157 h => ?_) (fun hb157 h => ?_)
     ·
      refine WC.rs (aV (k:=WR.done ?_))
      exact WC.ret fun w hw => rq_ r h hF hw
     refine WC.skip ?_
     intro w hw
     exact ⟨Γ153, h, slK, (hw.on [4, 4, 0, 3]), ((((hl80.trans hl109).trans hl120).trans hl142).trans hl154), trivial⟩
    have h := bf hb150 h
    refine WR.unsat (c0 := true) (g := ((z139.length : Int) != 0)) rfl rfl rfl hb150 rfl ?_
    refine WR.unsat (c0 := true) (g := ((z139.length : Int) != 0)) rfl rfl rfl hb150 rfl ?_
    refine sV (k6 (v := .bool true) rfl rfl (wi hb150) (by kernel_rfl)) (k:=WR.done ?_)
    refine WC.ctk (b := true) (by kernel_rfl) rfl ?_
    refine WC.rs (aV (k:=WR.done ?_))
    exact WC.ret fun w hw => rq_ r h hF hw
   have h := bf hb138 h
   refine WR.unsat (c0 := true) (g := ((((z106.2 != want_96) || (z117.2 != want_96)) || ((z106.1.length : Int) != 0)) || ((z117.1.length : Int) != 0))) rfl rfl rfl hb138 rfl ?_
   refine WR.unsat (c0 := true) (g := ((((z106.2 != want_96) || (z117.2 != want_96)) || ((z106.1.length : Int) != 0)) || ((z117.1.length : Int) != 0))) rfl rfl rfl hb138 rfl ?_
   refine WR.unsat (c0 := true) (g := ((((z106.2 != want_96) || (z117.2 != want_96)) || ((z106.1.length : Int) != 0)) || ((z117.1.length : Int) != 0))) rfl rfl rfl hb138 rfl ?_
   refine sV (k6 (v := .bool true) rfl rfl (wi hb138) (by kernel_rfl)) (k:=mV (k:=?_))
   refine WR.unsat (c0 := true) (g := true) rfl rfl rfl (nott rfl) rfl ?_
   refine WR.unsat (c0 := true) (g := true) rfl rfl rfl (nott rfl) rfl ?_
   refine WR.unsat (c0 := true) (g := true) rfl rfl rfl (nott rfl) rfl ?_
   refine sV (tP (v := .bool true) rfl rfl rfl) (k:=WR.done ?_)
   refine WC.ctk (b := true) (by kernel_rfl) rfl ?_
   refine WC.rs (aV (k:=WR.done ?_))
   exact WC.ret fun w hw => rq_ r h hF hw
  rintro σ w ⟨Γ71, h, hsl, hw, hl72, -⟩
  refine slV hsl hw [_, _, _, _] ?_; clear hw hsl
  refine WC.region ?_
  refine mV (k:=sV (aK rfl rfl rfl (kD hl70 (by decide))) (k:=aV (k:=?_)))
  refine WR.nil ?_
  intro w hw
  exact ⟨hl70, (), h, Γ71, slK, hw, (hl63.trans hl72), trivial⟩
 have h := hge68 (ige hb69)
 refine WC.exit ?_
 change WC _ _ _ _ _ _
 refine WC.rs (mV (k:=sV dl (k:=mV (k:=vG0 (h:=fun hg158 => moV) (k:=vG0 (h:=fun hg159 => dl rfl (grV hg159)) (k:=sV pkO (k:=aV (k:=?_))))))))
 refine WR.done ?_
 exact WC.ret fun w hw => rq_ r h hF hw
end Fw
end Go.Proofs.YtogmioecalmalaaGreat
