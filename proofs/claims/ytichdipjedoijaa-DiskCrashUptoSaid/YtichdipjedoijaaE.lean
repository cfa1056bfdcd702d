/- The types of this program: where fields lie, what slices hold, when structs are one. No condition. -/
import Derived.Test.YtichdipjedoijaaD
import Derived.Test.YtichdipjedoijaaRows
namespace Go.Proofs.Ytichdipjedoijaa
namespace Fw
set_option linter.unusedVariables false
set_option linter.unusedSimpArgs false
set_option linter.unusedSectionVars false
open Go.RowKit
theorem elem_22 : ElemOf Try.prog 22 5 byteT := ⟨Try.underlying22, Try.t5, by kernel_rfl, by kernel_rfl, by kernel_rfl, by decide⟩
theorem elem_33 : ElemOf Try.prog 33 9 strT := ⟨Try.underlying33, Try.t9, by kernel_rfl, by kernel_rfl, by kernel_rfl, by decide⟩
theorem elem_38 : ElemOf Try.prog 38 43 dfirthlaw07_OpT := ⟨Try.underlying38, Try.t43, by kernel_rfl, by kernel_rfl, by kernel_rfl, by decide⟩
theorem fld_43_0 : FieldAt Try.prog 43 0 0 := ⟨_, _, _, Try.underlying43, rfl, rfl, Try.sizeOf3⟩
theorem fld_43_1 : FieldAt Try.prog 43 1 1 := ⟨_, _, _, Try.underlying43, rfl, rfl, Try.sizeOf9⟩
theorem fld_43_2 : FieldAt Try.prog 43 2 2 := ⟨_, _, _, Try.underlying43, rfl, rfl, Try.sizeOf9⟩
theorem fld_43_3 : FieldAt Try.prog 43 3 3 := ⟨_, _, _, Try.underlying43, rfl, rfl, Try.sizeOf22⟩
theorem fld_43_4 : FieldAt Try.prog 43 4 4 := ⟨_, _, _, Try.underlying43, rfl, rfl, Try.sizeOf3⟩
theorem fld_43_5 : FieldAt Try.prog 43 5 5 := ⟨_, _, _, Try.underlying43, rfl, rfl, Try.sizeOf3⟩
theorem elem_44 : ElemOf Try.prog 44 80 dfirthref07_FileT := ⟨Try.underlying44, Try.t80, by kernel_rfl, by kernel_rfl, by kernel_rfl, by decide⟩
theorem elem_45 : ElemOf Try.prog 45 83 dfirthref07_ChangeT := ⟨Try.underlying45, Try.t83, by kernel_rfl, by kernel_rfl, by kernel_rfl, by decide⟩
theorem fld_47_0 : FieldAt Try.prog 47 0 0 := ⟨_, _, _, Try.underlying47, rfl, rfl, Try.sizeOf3⟩
theorem fld_47_1 : FieldAt Try.prog 47 1 1 := ⟨_, _, _, Try.underlying47, rfl, rfl, Try.sizeOf44⟩
theorem fld_47_2 : FieldAt Try.prog 47 2 2 := ⟨_, _, _, Try.underlying47, rfl, rfl, Try.sizeOf45⟩
theorem elem_59 : ElemOf Try.prog 59 68 ddisk_changeT := ⟨Try.underlying59, Try.t68, by kernel_rfl, by kernel_rfl, by kernel_rfl, by decide⟩
theorem fld_61_0 : FieldAt Try.prog 61 0 0 := ⟨_, _, _, Try.underlying61, rfl, rfl, Try.sizeOf3⟩
theorem fld_61_1 : FieldAt Try.prog 61 1 1 := ⟨_, _, _, Try.underlying61, rfl, rfl, Try.sizeOf58⟩
theorem fld_61_2 : FieldAt Try.prog 61 2 2 := ⟨_, _, _, Try.underlying61, rfl, rfl, Try.sizeOf58⟩
theorem fld_61_3 : FieldAt Try.prog 61 3 3 := ⟨_, _, _, Try.underlying61, rfl, rfl, Try.sizeOf59⟩
theorem fld_68_0 : FieldAt Try.prog 68 0 0 := ⟨_, _, _, Try.underlying68, rfl, rfl, Try.sizeOf65⟩
theorem fld_68_1 : FieldAt Try.prog 68 1 1 := ⟨_, _, _, Try.underlying68, rfl, rfl, Try.sizeOf9⟩
theorem fld_68_2 : FieldAt Try.prog 68 2 2 := ⟨_, _, _, Try.underlying68, rfl, rfl, Try.sizeOf22⟩
theorem fld_80_0 : FieldAt Try.prog 80 0 0 := ⟨_, _, _, Try.underlying80, rfl, rfl, Try.sizeOf9⟩
theorem fld_80_1 : FieldAt Try.prog 80 1 1 := ⟨_, _, _, Try.underlying80, rfl, rfl, Try.sizeOf22⟩
theorem fld_83_0 : FieldAt Try.prog 83 0 0 := ⟨_, _, _, Try.underlying83, rfl, rfl, Try.sizeOf3⟩
theorem fld_83_1 : FieldAt Try.prog 83 1 1 := ⟨_, _, _, Try.underlying83, rfl, rfl, Try.sizeOf9⟩
theorem fld_83_2 : FieldAt Try.prog 83 2 2 := ⟨_, _, _, Try.underlying83, rfl, rfl, Try.sizeOf9⟩
theorem fld_83_3 : FieldAt Try.prog 83 3 3 := ⟨_, _, _, Try.underlying83, rfl, rfl, Try.sizeOf22⟩
theorem fld_83_4 : FieldAt Try.prog 83 4 4 := ⟨_, _, _, Try.underlying83, rfl, rfl, Try.sizeOf3⟩
end Fw
end Go.Proofs.Ytichdipjedoijaa
