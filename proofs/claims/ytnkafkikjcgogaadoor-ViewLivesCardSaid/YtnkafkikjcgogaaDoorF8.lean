/- Closed facts on the translation. -/
import Derived.Test.YtnkafkikjcgogaaDoorSxg
import Derived.Test.YtnkafkikjcgogaaDoorProg
set_option maxRecDepth 100000
set_option linter.unusedVariables false
set_option linter.unusedSimpArgs false
namespace Go.Proofs.YtnkafkikjcgogaaDoor.F8
open Go.Sx
theorem mixed : Tryd.prog.follows .mixedOrders = true := by kernel_rfl
theorem ag31 : aggB Tryd.prog 31 = some 6 := by kernel_rfl
theorem ag57 : aggB Tryd.prog 57 = some 3 := by kernel_rfl
theorem el49 : elemB Tryd.prog 49 = some (5, 1) := by kernel_rfl
theorem en20 : entB Tryd.prog 20 = true := by kernel_rfl
theorem en34 : entB Tryd.prog 34 = true := by kernel_rfl
theorem en41 : entB Tryd.prog 41 = true := by kernel_rfl
theorem en42 : entB Tryd.prog 42 = true := by kernel_rfl
theorem en43 : entB Tryd.prog 43 = true := by kernel_rfl
theorem en44 : entB Tryd.prog 44 = true := by kernel_rfl
theorem fl31_5 : fldB Tryd.prog 31 5 = some 5 := by kernel_rfl
theorem fl57_0 : fldB Tryd.prog 57 0 = some 0 := by kernel_rfl
theorem pl3 : plainB Tryd.prog 3 = true := by kernel_rfl
theorem sz29 : szB Tryd.prog 29 = some 1 := by kernel_rfl
theorem sz31 : szB Tryd.prog 31 = some 6 := by kernel_rfl
theorem sz57 : szB Tryd.prog 57 = some 3 := by kernel_rfl
theorem ze31 : zeroB Tryd.prog 31 = some [.int .i64 0, .int .i64 0, .int .i64 0, .int .i64 0, .slice none 0 0, .slice none 0 0] := by kernel_rfl
theorem ze57 : zeroB Tryd.prog 57 = some [.int .i64 0, .bool false, .int .i64 0] := by kernel_rfl
end Go.Proofs.YtnkafkikjcgogaaDoor.F8
