/- Closed facts on the translation. -/
import Derived.Test.YtnkafkikjcgogaaDoorSxg
import Derived.Test.YtnkafkikjcgogaaDoorProg
set_option maxRecDepth 100000
set_option linter.unusedVariables false
set_option linter.unusedSimpArgs false
namespace Go.Proofs.YtnkafkikjcgogaaDoor.FC
open Go.Sx
theorem mixed : Tryd.prog.follows .mixedOrders = true := by kernel_rfl
theorem ag31 : aggB Tryd.prog 31 = some 6 := by kernel_rfl
theorem ap22 : appB Tryd.prog 22 = some (3, 1, 8) := by kernel_rfl
theorem bo4 : Tryd.prog.underlying 4 = some .bool := by kernel_rfl
theorem el22 : elemB Tryd.prog 22 = some (3, 1) := by kernel_rfl
theorem el29 : elemB Tryd.prog 29 = some (46, 3) := by kernel_rfl
theorem el39 : elemB Tryd.prog 39 = some (31, 6) := by kernel_rfl
theorem en10 : entB Tryd.prog 10 = true := by kernel_rfl
theorem en11 : entB Tryd.prog 11 = true := by kernel_rfl
theorem en13 : entB Tryd.prog 13 = true := by kernel_rfl
theorem en14 : entB Tryd.prog 14 = true := by kernel_rfl
theorem en15 : entB Tryd.prog 15 = true := by kernel_rfl
theorem en6 : entB Tryd.prog 6 = true := by kernel_rfl
theorem en7 : entB Tryd.prog 7 = true := by kernel_rfl
theorem en9 : entB Tryd.prog 9 = true := by kernel_rfl
theorem fl31_1 : fldB Tryd.prog 31 1 = some 1 := by kernel_rfl
theorem fl46_0 : fldB Tryd.prog 46 0 = some 0 := by kernel_rfl
theorem fp31_5 : fldP Tryd.prog 31 5 = some 5 := by kernel_rfl
theorem if34 : ifaceB Tryd.prog 34 = true := by kernel_rfl
theorem pl2 : plainB Tryd.prog 2 = true := by kernel_rfl
theorem pl3 : plainB Tryd.prog 3 = true := by kernel_rfl
theorem pl9 : plainB Tryd.prog 9 = true := by kernel_rfl
theorem pt24 : ptrB Tryd.prog 24 = some 1 := by kernel_rfl
theorem sz3 : szB Tryd.prog 3 = some 1 := by kernel_rfl
theorem sz31 : szB Tryd.prog 31 = some 6 := by kernel_rfl
theorem ze3 : zeroB Tryd.prog 3 = some [.int .i64 0] := by kernel_rfl
theorem ze31 : zeroB Tryd.prog 31 = some [.int .i64 0, .int .i64 0, .int .i64 0, .int .i64 0, .slice none 0 0, .slice none 0 0] := by kernel_rfl
end Go.Proofs.YtnkafkikjcgogaaDoor.FC
