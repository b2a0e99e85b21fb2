/- Closed facts on the translation. -/
import Derived.Test.YtnkafkikjcgogaaDoorSxg
import Derived.Test.YtnkafkikjcgogaaDoorProg
set_option maxRecDepth 100000
set_option linter.unusedVariables false
set_option linter.unusedSimpArgs false
namespace Go.Proofs.YtnkafkikjcgogaaDoor.F7
open Go.Sx
theorem mixed : Tryd.prog.follows .mixedOrders = true := by kernel_rfl
theorem ag57 : aggB Tryd.prog 57 = some 3 := by kernel_rfl
theorem el28 : elemB Tryd.prog 28 = some (61, 2) := by kernel_rfl
theorem el29 : elemB Tryd.prog 29 = some (46, 3) := by kernel_rfl
theorem en44 : entB Tryd.prog 44 = true := by kernel_rfl
theorem en66 : entB Tryd.prog 66 = true := by kernel_rfl
theorem en69 : entB Tryd.prog 69 = true := by kernel_rfl
theorem en70 : entB Tryd.prog 70 = true := by kernel_rfl
theorem en71 : entB Tryd.prog 71 = true := by kernel_rfl
theorem fl31_0 : fldB Tryd.prog 31 0 = some 0 := by kernel_rfl
theorem fl31_1 : fldB Tryd.prog 31 1 = some 1 := by kernel_rfl
theorem fl31_2 : fldB Tryd.prog 31 2 = some 2 := by kernel_rfl
theorem fl31_3 : fldB Tryd.prog 31 3 = some 3 := by kernel_rfl
theorem fl31_4 : fldB Tryd.prog 31 4 = some 4 := by kernel_rfl
theorem fl31_5 : fldB Tryd.prog 31 5 = some 5 := by kernel_rfl
theorem fl46_0 : fldB Tryd.prog 46 0 = some 0 := by kernel_rfl
theorem fl46_1 : fldB Tryd.prog 46 1 = some 1 := by kernel_rfl
theorem fl61_1 : fldB Tryd.prog 61 1 = some 1 := by kernel_rfl
theorem pl2 : plainB Tryd.prog 2 = true := by kernel_rfl
theorem pl28 : plainB Tryd.prog 28 = true := by kernel_rfl
theorem pl29 : plainB Tryd.prog 29 = true := by kernel_rfl
theorem pl3 : plainB Tryd.prog 3 = true := by kernel_rfl
theorem pl9 : plainB Tryd.prog 9 = true := by kernel_rfl
theorem sz57 : szB Tryd.prog 57 = some 3 := by kernel_rfl
theorem ze57 : zeroB Tryd.prog 57 = some [.int .i64 0, .bool false, .int .i64 0] := by kernel_rfl
end Go.Proofs.YtnkafkikjcgogaaDoor.F7
