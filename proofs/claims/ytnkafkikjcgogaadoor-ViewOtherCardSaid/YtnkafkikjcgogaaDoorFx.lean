/- Closed facts on the translation. -/
import Derived.Test.YtnkafkikjcgogaaDoorSxe
import Derived.Test.YtnkafkikjcgogaaDoorProg
set_option maxRecDepth 100000
set_option linter.unusedVariables false
set_option linter.unusedSimpArgs false
namespace Go.Proofs.YtnkafkikjcgogaaDoor.Fx
open Go.Sx
theorem mixed : Tryd.prog.follows .mixedOrders = true := by kernel_rfl
theorem ag46 : aggB Tryd.prog 46 = some 3 := by kernel_rfl
theorem ag57 : aggB Tryd.prog 57 = some 3 := by kernel_rfl
theorem ag61 : aggB Tryd.prog 61 = some 2 := by kernel_rfl
theorem ap28 : appB Tryd.prog 28 = some (61, 2, 16) := by kernel_rfl
theorem ap29 : appB Tryd.prog 29 = some (46, 3, 32) := by kernel_rfl
theorem ap49 : appB Tryd.prog 49 = some (5, 1, 1) := by kernel_rfl
theorem bo4 : Tryd.prog.underlying 4 = some .bool := by kernel_rfl
theorem el28 : elemB Tryd.prog 28 = some (61, 2) := by kernel_rfl
theorem el29 : elemB Tryd.prog 29 = some (46, 3) := by kernel_rfl
theorem fl57_0 : fldB Tryd.prog 57 0 = some 0 := by kernel_rfl
theorem fl57_1 : fldB Tryd.prog 57 1 = some 1 := by kernel_rfl
theorem fl57_2 : fldB Tryd.prog 57 2 = some 2 := by kernel_rfl
theorem pl3 : plainB Tryd.prog 3 = true := by kernel_rfl
theorem pl4 : plainB Tryd.prog 4 = true := by kernel_rfl
theorem sl28 : sliceB Tryd.prog 28 = true := by kernel_rfl
theorem sl29 : sliceB Tryd.prog 29 = true := by kernel_rfl
theorem sl49 : sliceB Tryd.prog 49 = true := by kernel_rfl
theorem sz57 : szB Tryd.prog 57 = some 3 := by kernel_rfl
theorem un28 : Tryd.prog.underlying 28 = some (.slice 61) := by kernel_rfl
theorem un29 : Tryd.prog.underlying 29 = some (.slice 46) := by kernel_rfl
theorem un49 : Tryd.prog.underlying 49 = some (.slice 5) := by kernel_rfl
theorem ze57 : zeroB Tryd.prog 57 = some [.int .i64 0, .bool false, .int .i64 0] := by kernel_rfl
end Go.Proofs.YtnkafkikjcgogaaDoor.Fx
