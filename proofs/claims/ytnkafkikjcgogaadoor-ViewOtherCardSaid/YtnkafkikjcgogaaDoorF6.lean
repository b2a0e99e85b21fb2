/- Closed facts on the translation. -/
import Derived.Test.YtnkafkikjcgogaaDoorSxg
import Derived.Test.YtnkafkikjcgogaaDoorProg
set_option maxRecDepth 100000
set_option linter.unusedVariables false
set_option linter.unusedSimpArgs false
namespace Go.Proofs.YtnkafkikjcgogaaDoor.F6
open Go.Sx
theorem mixed : Tryd.prog.follows .mixedOrders = true := by kernel_rfl
theorem el28 : elemB Tryd.prog 28 = some (61, 2) := by kernel_rfl
theorem el49 : elemB Tryd.prog 49 = some (5, 1) := by kernel_rfl
theorem en65 : entB Tryd.prog 65 = true := by kernel_rfl
theorem en66 : entB Tryd.prog 66 = true := by kernel_rfl
theorem en67 : entB Tryd.prog 67 = true := by kernel_rfl
theorem en68 : entB Tryd.prog 68 = true := by kernel_rfl
theorem en93 : entB Tryd.prog 93 = true := by kernel_rfl
theorem fl61_0 : fldB Tryd.prog 61 0 = some 0 := by kernel_rfl
theorem fl61_1 : fldB Tryd.prog 61 1 = some 1 := by kernel_rfl
theorem pl2 : plainB Tryd.prog 2 = true := by kernel_rfl
theorem pl3 : plainB Tryd.prog 3 = true := by kernel_rfl
theorem st9 : Tryd.prog.underlying 9 = some .string := by kernel_rfl
end Go.Proofs.YtnkafkikjcgogaaDoor.F6
