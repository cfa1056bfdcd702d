/- The types of this program: where fields lie, what slices hold, when structs are one. No condition. -/
import Derived.Test.YtogcoieekhbfdaaD
import Derived.Test.YtogcoieekhbfdaaRows
import Derived.ChangeKeysEq
namespace Go.Proofs.Ytogcoieekhbfdaa
namespace Fw
set_option linter.unusedVariables false
set_option linter.unusedSimpArgs false
set_option linter.unusedSectionVars false
open Go.RowKit
theorem elem_22 : ElemOf Try.prog 22 31 (slT byteT) := ⟨Try.underlying22, Try.t31, by kernel_rfl, by kernel_rfl, by kernel_rfl, by decide⟩
theorem elem_31 : ElemOf Try.prog 31 5 byteT := ⟨Try.underlying31, Try.t5, by kernel_rfl, by kernel_rfl, by kernel_rfl, by decide⟩
theorem elem_32 : ElemOf Try.prog 32 9 strT := ⟨Try.underlying32, Try.t9, by kernel_rfl, by kernel_rfl, by kernel_rfl, by decide⟩
theorem elem_50 : ElemOf Try.prog 50 79 ddisk_changeT := ⟨Try.underlying50, Try.t79, by kernel_rfl, by kernel_rfl, by kernel_rfl, by decide⟩
theorem fld_52_0 : FieldAt Try.prog 52 0 0 := ⟨_, _, _, Try.underlying52, rfl, rfl, Try.sizeOf3⟩
theorem fld_52_1 : FieldAt Try.prog 52 1 1 := ⟨_, _, _, Try.underlying52, rfl, rfl, Try.sizeOf49⟩
theorem fld_52_2 : FieldAt Try.prog 52 2 2 := ⟨_, _, _, Try.underlying52, rfl, rfl, Try.sizeOf49⟩
theorem fld_52_3 : FieldAt Try.prog 52 3 3 := ⟨_, _, _, Try.underlying52, rfl, rfl, Try.sizeOf50⟩
theorem fld_55_0 : FieldAt Try.prog 55 0 0 := ⟨_, _, _, Try.underlying55, rfl, rfl, Try.sizeOf24⟩
theorem fld_55_1 : FieldAt Try.prog 55 1 1 := ⟨_, _, _, Try.underlying55, rfl, rfl, Try.sizeOf9⟩
theorem fld_55_2 : FieldAt Try.prog 55 2 2 := ⟨_, _, _, Try.underlying55, rfl, rfl, Try.sizeOf2⟩
theorem fld_63_0 : FieldAt Try.prog 63 0 0 := ⟨_, _, _, Try.underlying63, rfl, rfl, Try.sizeOf55⟩
theorem fld_63_1 : FieldAt Try.prog 63 1 3 := ⟨_, _, _, Try.underlying63, rfl, rfl, Try.sizeOf3⟩
theorem fld_63_2 : FieldAt Try.prog 63 2 4 := ⟨_, _, _, Try.underlying63, rfl, rfl, Try.sizeOf2⟩
theorem fld_63_3 : FieldAt Try.prog 63 3 5 := ⟨_, _, _, Try.underlying63, rfl, rfl, Try.sizeOf3⟩
theorem fld_63_4 : FieldAt Try.prog 63 4 6 := ⟨_, _, _, Try.underlying63, rfl, rfl, Try.sizeOf3⟩
theorem fld_63_5 : FieldAt Try.prog 63 5 7 := ⟨_, _, _, Try.underlying63, rfl, rfl, Try.sizeOf3⟩
theorem fld_79_0 : FieldAt Try.prog 79 0 0 := ⟨_, _, _, Try.underlying79, rfl, rfl, Try.sizeOf77⟩
theorem fld_79_1 : FieldAt Try.prog 79 1 1 := ⟨_, _, _, Try.underlying79, rfl, rfl, Try.sizeOf9⟩
theorem fld_79_2 : FieldAt Try.prog 79 2 2 := ⟨_, _, _, Try.underlying79, rfl, rfl, Try.sizeOf31⟩
end Fw
end Go.Proofs.Ytogcoieekhbfdaa
