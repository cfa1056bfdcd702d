/- Closed facts of the row, each reckoned by itself. No condition. -/
import Derived.Test.YtogmioecalmalaaGreatJ2
import Derived.Test.YtogmioecalmalaaGreatChecked
namespace Go.Proofs.YtogmioecalmalaaGreat
namespace Fw
set_option linter.unusedVariables false
set_option linter.unusedSimpArgs false
set_option linter.unusedSectionVars false
set_option maxRecDepth 100000
open Go.RowKit Go.ChangeShapes
theorem jf12 : (Rows.siteGatesUptoRow.named == Tryz.pinned.checked.prog.varsNamed 5) = true := by kernel_rfl
theorem jf13 : (Rows.siteGatesUptoRow.maps == (Tryz.f5.params.toList ++ (Rows.OpenSpec.upto Rows.siteGatesSpec).bare.plain.varTypes Tryz.pinned.checked.prog).any (Tryz.pinned.checked.prog.mapsRec ·)) = true := by kernel_rfl
theorem jf14 : (Rows.siteGatesUptoRow.ifaces == (Tryz.f5.params.toList ++ (Rows.OpenSpec.upto Rows.siteGatesSpec).bare.plain.varTypes Tryz.pinned.checked.prog).any (Tryz.pinned.checked.prog.ifacesRec ·)) = true := by kernel_rfl
theorem jf15 : (Rows.siteGatesUptoRow.mapsOut == Tryz.pinned.checked.prog.mapsAmong Tryz.f5.resultTypes.toList) = true := by kernel_rfl
theorem jf16 : (Rows.siteGatesUptoRow.loops == (Tryz.f5.params.toList ++ (Rows.OpenSpec.upto Rows.siteGatesSpec).bare.plain.varTypes Tryz.pinned.checked.prog).any (Tryz.pinned.checked.prog.loopsFrom ·)) = true := by kernel_rfl
theorem jf17 : (Rows.siteGatesUptoRow.wideKeys == (Tryz.f5.params.toList ++ (Rows.OpenSpec.upto Rows.siteGatesSpec).bare.plain.varTypes Tryz.pinned.checked.prog ++ Tryz.f5.resultTypes.toList).any (Tryz.pinned.checked.prog.wideKeysFrom ·)) = true := by kernel_rfl
theorem jf18 : ((Rows.OpenSpec.upto Rows.siteGatesSpec).bare.vars.all (Tryz.pinned.checked.prog.varReadable ·)) = true := by kernel_rfl
theorem jf19 : (Tryz.f5.resultTypes.all (fun t => Tryz.pinned.checked.prog.readableRec t && decide (t < Tryz.pinned.checked.prog.types.size))) = true := by kernel_rfl
theorem jf20 : (Rows.siteGatesUptoRow.ifacesOut == Tryz.f5.resultTypes.toList.any (Tryz.pinned.checked.prog.ifacesRec ·)) = true := by kernel_rfl
theorem jf21 : (Rows.siteGatesUptoRow.loopsOut == Tryz.f5.resultTypes.toList.any (Tryz.pinned.checked.prog.loopsFrom ·)) = true := by kernel_rfl
theorem jf22 : (Rows.siteGatesUptoRow.plainKeys == Tryz.pinned.checked.prog.plainKeys) = true := by kernel_rfl
theorem jf23 : (Rows.siteGatesUptoRow.shortTexts.isNone) = true := by kernel_rfl
theorem jf24 : (Tryz.pinned.checked.prog.stopsHeard) = true := by kernel_rfl
theorem jf25 : (Tryz.pinned.checked.prog.mayEnter) = true := by kernel_rfl
theorem jf26 : (Rows.siteGatesUptoRow.lifted == Tryz.pinned.checked.prog.liftsFinal) = true := by kernel_rfl
theorem jf27 : (Tryz.pinned.checked.prog.make == some Rows.siteGatesUptoRow.make) = true := by kernel_rfl
theorem jf28 : (Rows.siteGatesUptoRow.kinds == (if Rows.siteGatesUptoRow.domain.isEmpty then [] else Tryz.f5.params.toList.map fun t => match Tryz.pinned.checked.prog.underlying t with | some (.int k) => some k | _ => none)) = true := by kernel_rfl
theorem jf29 : (Rows.siteGatesUptoRow.pinned == Rows.siteGatesUptoRow.pinnedBy) = true := by kernel_rfl
theorem jf30 : (Rows.siteGatesUptoRow.veiled == (Tryz.f5.params.toList ++ (Rows.OpenSpec.upto Rows.siteGatesSpec).bare.plain.varTypes Tryz.pinned.checked.prog ++ Tryz.f5.resultTypes.toList).any (Tryz.pinned.checked.prog.veiledRec ·)) = true := by kernel_rfl
theorem jf31 : (Rows.siteGatesUptoRow.veiledFits Tryz.pinned.checked.prog Tryz.f5.params.toList (Tryz.f5.params.toList ++ (Rows.OpenSpec.upto Rows.siteGatesSpec).bare.plain.varTypes Tryz.pinned.checked.prog ++ Tryz.f5.resultTypes.toList)) = true := by kernel_rfl
theorem w4 : Tryz.pinned.checked.prog.funcNamed Rows.siteGatesUptoRow.func = some 5 := by kernel_rfl
theorem xM : Tryz.f5.isInstance Tryz.pinned.checked.prog Rows.siteGatesUptoRow.origin Rows.siteGatesUptoRow.targs := of_decide_eq_true (by kernel_rfl)
theorem yc : Tryz.f5.isWrapper Tryz.pinned.checked.prog Rows.siteGatesUptoRow.wrapper Rows.siteGatesUptoRow.mainSum := by unfold Func.isWrapper; first | (rw [if_pos (by decide +kernel)]; kernel_rfl) | (rw [if_neg (by decide +kernel)]; exact ⟨rfl, rfl⟩)
end Fw
end Go.Proofs.YtogmioecalmalaaGreat
