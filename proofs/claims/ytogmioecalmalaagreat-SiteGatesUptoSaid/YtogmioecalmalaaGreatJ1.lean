/- Closed facts of the row, each reckoned by itself. No condition. -/
import Derived.Test.YtogmioecalmalaaGreatK11
import Derived.Test.YtogmioecalmalaaGreatChecked
namespace Go.Proofs.YtogmioecalmalaaGreat
namespace Fw
set_option linter.unusedVariables false
set_option linter.unusedSimpArgs false
set_option linter.unusedSectionVars false
set_option maxRecDepth 100000
open Go.RowKit Go.ChangeShapes
theorem own_ : ownKnob Tryz.prog.godebug = none := by kernel_rfl
theorem ru : laidOutB Tryz.prog = true := by kernel_rfl
theorem cH {a b : Bool} (h : a = true) (k : b = true) : (a && b) = true := by subst h; exact k
theorem Ae {P : Program} {f : FuncId} {fn : Func} {s : ChangeSpec} {c : OpenClaim} (h0 : (c.wf (OpenSpec.ofChange s)) = true) (h1 : (laidOutB P) = true) (h2 : (mapsRowed P) = true) (h3 : (fn.params.all (P.readableRec ·)) = true) (h4 : (namedTie P c.named s.vars) = true) (h5 : (c.stops == []) = true) (h6 : (P.stops == []) = true) (h7 : (c.knobs == []) = true) (h8 : (P.stopKnobs == []) = true) (h9 : (c.inPlace == P.inPlace f) = true) (h10 : (c.unfollowed == P.unfollowed f) = true) (h11 : (c.recurses == P.recurses f) = true) (h12 : (c.named == P.varsNamed f) = true) (h13 : (c.maps == (fn.params.toList ++ s.plain.varTypes P).any (P.mapsRec ·)) = true) (h14 : (c.ifaces == (fn.params.toList ++ s.plain.varTypes P).any (P.ifacesRec ·)) = true) (h15 : (c.mapsOut == P.mapsAmong fn.resultTypes.toList) = true) (h16 : (c.loops == (fn.params.toList ++ s.plain.varTypes P).any (P.loopsFrom ·)) = true) (h17 : (c.wideKeys == (fn.params.toList ++ s.plain.varTypes P ++ fn.resultTypes.toList).any (P.wideKeysFrom ·)) = true) (h18 : (s.vars.all (P.varReadable ·)) = true) (h19 : (fn.resultTypes.all (fun t => P.readableRec t && decide (t < P.types.size))) = true) (h20 : (c.ifacesOut == fn.resultTypes.toList.any (P.ifacesRec ·)) = true) (h21 : (c.loopsOut == fn.resultTypes.toList.any (P.loopsFrom ·)) = true) (h22 : (c.plainKeys == P.plainKeys) = true) (h23 : (c.shortTexts.isNone) = true) (h24 : (P.stopsHeard) = true) (h25 : (P.mayEnter) = true) (h26 : (c.lifted == P.liftsFinal) = true) (h27 : (P.make == some c.make) = true) (h28 : (c.kinds == (if c.domain.isEmpty then [] else fn.params.toList.map fun t => match P.underlying t with | some (.int k) => some k | _ => none)) = true) (h29 : (c.pinned == c.pinnedBy) = true) (h30 : (c.veiled == (fn.params.toList ++ s.plain.varTypes P ++ fn.resultTypes.toList).any (P.veiledRec ·)) = true) (h31 : (c.veiledFits P fn.params.toList (fn.params.toList ++ s.plain.varTypes P ++ fn.resultTypes.toList)) = true) : joinedFacts P f fn s c = true :=
  (cH (cH (cH (cH (cH (cH (cH (cH (cH (cH (cH (cH (cH (cH (cH (cH (cH (cH (cH (cH (cH (cH (cH (cH (cH (cH (cH (cH (cH (cH (cH h0 h1) h2) h3) h4) h5) h6) h7) h8) h9) h10) h11) h12) h13) h14) h15) h16) h17) h18) h19) h20) h21) h22) h23) h24) h25) h26) h27) h28) h29) h30) h31)
theorem jf0 : (Rows.siteGatesUptoRow.wf (OpenSpec.ofChange (Rows.OpenSpec.upto Rows.siteGatesSpec).bare)) = true := by kernel_rfl
theorem jf1 : (laidOutB Tryz.pinned.checked.prog) = true := ru
theorem jf2 : (mapsRowed Tryz.pinned.checked.prog) = true := by kernel_rfl
theorem jf3 : (Tryz.f5.params.all (Tryz.pinned.checked.prog.readableRec ·)) = true := by kernel_rfl
theorem jf4 : (namedTie Tryz.pinned.checked.prog Rows.siteGatesUptoRow.named (Rows.OpenSpec.upto Rows.siteGatesSpec).bare.vars) = true := by kernel_rfl
theorem jf5 : (Rows.siteGatesUptoRow.stops == []) = true := by kernel_rfl
theorem jf6 : (Tryz.pinned.checked.prog.stops == []) = true := by kernel_rfl
theorem jf7 : (Rows.siteGatesUptoRow.knobs == []) = true := by kernel_rfl
theorem jf8 : (Tryz.pinned.checked.prog.stopKnobs == []) = true := by kernel_rfl
theorem jf9 : (Rows.siteGatesUptoRow.inPlace == Tryz.pinned.checked.prog.inPlace 5) = true := by kernel_rfl
end Fw
end Go.Proofs.YtogmioecalmalaaGreat
