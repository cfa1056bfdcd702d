/- Closed facts of the row, each reckoned by itself. No condition. -/
import Derived.Test.YtogmioecalmalaaGreatJ2
import Derived.Test.YtogmioecalmalaaGreatChecked
namespace Go.Proofs.YtogmioecalmalaaGreat
namespace Fw
set_option linter.unusedVariables false
set_option linter.unusedSimpArgs false
set_option linter.unusedSectionVars false
set_option maxRecDepth 100000
open Go.RowKit Go.ChangeShapes
theorem jf12 : (Rows.siteConfsUptoRow.named == Tryz.pinned.checked.prog.varsNamed 3) = true := by kernel_rfl
theorem jf13 : (Rows.siteConfsUptoRow.maps == (Tryz.f3.params.toList ++ (Rows.OpenSpec.upto Rows.siteConfsSpec).bare.plain.varTypes Tryz.pinned.checked.prog).any (Tryz.pinned.checked.prog.mapsRec ·)) = true := by kernel_rfl
theorem jf14 : (Rows.siteConfsUptoRow.ifaces == (Tryz.f3.params.toList ++ (Rows.OpenSpec.upto Rows.siteConfsSpec).bare.plain.varTypes Tryz.pinned.checked.prog).any (Tryz.pinned.checked.prog.ifacesRec ·)) = true := by kernel_rfl
theorem jf15 : (Rows.siteConfsUptoRow.mapsOut == Tryz.pinned.checked.prog.mapsAmong Tryz.f3.resultTypes.toList) = true := by kernel_rfl
theorem jf16 : (Rows.siteConfsUptoRow.loops == (Tryz.f3.params.toList ++ (Rows.OpenSpec.upto Rows.siteConfsSpec).bare.plain.varTypes Tryz.pinned.checked.prog).any (Tryz.pinned.checked.prog.loopsFrom ·)) = true := by kernel_rfl
theorem jf17 : (Rows.siteConfsUptoRow.wideKeys == (Tryz.f3.params.toList ++ (Rows.OpenSpec.upto Rows.siteConfsSpec).bare.plain.varTypes Tryz.pinned.checked.prog ++ Tryz.f3.resultTypes.toList).any (Tryz.pinned.checked.prog.wideKeysFrom ·)) = true := by kernel_rfl
theorem jf18 : ((Rows.OpenSpec.upto Rows.siteConfsSpec).bare.vars.all (Tryz.pinned.checked.prog.varReadable ·)) = true := by kernel_rfl
theorem jf19 : (Tryz.f3.resultTypes.all (fun t => Tryz.pinned.checked.prog.readableRec t && decide (t < Tryz.pinned.checked.prog.types.size))) = true := by kernel_rfl
theorem jf20 : (Rows.siteConfsUptoRow.ifacesOut == Tryz.f3.resultTypes.toList.any (Tryz.pinned.checked.prog.ifacesRec ·)) = true := by kernel_rfl
theorem jf21 : (Rows.siteConfsUptoRow.loopsOut == Tryz.f3.resultTypes.toList.any (Tryz.pinned.checked.prog.loopsFrom ·)) = true := by kernel_rfl
theorem jf22 : (Rows.siteConfsUptoRow.plainKeys == Tryz.pinned.checked.prog.plainKeys) = true := by kernel_rfl
theorem jf23 : (Rows.siteConfsUptoRow.shortTexts.isNone) = true := by kernel_rfl
theorem jf24 : (Tryz.pinned.checked.prog.stopsHeard) = true := by kernel_rfl
theorem jf25 : (Tryz.pinned.checked.prog.mayEnter) = true := by kernel_rfl
theorem jf26 : (Rows.siteConfsUptoRow.lifted == Tryz.pinned.checked.prog.liftsFinal) = true := by kernel_rfl
theorem jf27 : (Tryz.pinned.checked.prog.make == some Rows.siteConfsUptoRow.make) = true := by kernel_rfl
theorem jf28 : (Rows.siteConfsUptoRow.kinds == (if Rows.siteConfsUptoRow.domain.isEmpty then [] else Tryz.f3.params.toList.map fun t => match Tryz.pinned.checked.prog.underlying t with | some (.int k) => some k | _ => none)) = true := by kernel_rfl
theorem jf29 : (Rows.siteConfsUptoRow.pinned == Rows.siteConfsUptoRow.pinnedBy) = true := by kernel_rfl
theorem jf30 : (Rows.siteConfsUptoRow.veiled == (Tryz.f3.params.toList ++ (Rows.OpenSpec.upto Rows.siteConfsSpec).bare.plain.varTypes Tryz.pinned.checked.prog ++ Tryz.f3.resultTypes.toList).any (Tryz.pinned.checked.prog.veiledRec ·)) = true := by kernel_rfl
theorem jf31 : (Rows.siteConfsUptoRow.veiledFits Tryz.pinned.checked.prog Tryz.f3.params.toList (Tryz.f3.params.toList ++ (Rows.OpenSpec.upto Rows.siteConfsSpec).bare.plain.varTypes Tryz.pinned.checked.prog ++ Tryz.f3.resultTypes.toList)) = true := by kernel_rfl
theorem jf_named : Tryz.pinned.checked.prog.funcNamed Rows.siteConfsUptoRow.func = some 3 := by kernel_rfl
theorem jf_inst : Tryz.f3.isInstance Tryz.pinned.checked.prog Rows.siteConfsUptoRow.origin Rows.siteConfsUptoRow.targs := of_decide_eq_true (by kernel_rfl)
theorem jf_wrap : Tryz.f3.isWrapper Tryz.pinned.checked.prog Rows.siteConfsUptoRow.wrapper Rows.siteConfsUptoRow.mainSum := by unfold Func.isWrapper; first | (rw [if_pos (by decide +kernel)]; kernel_rfl) | (rw [if_neg (by decide +kernel)]; exact ⟨rfl, rfl⟩)
end Fw
end Go.Proofs.YtogmioecalmalaaGreat
