/- Closed facts on the translation. -/
import Derived.Test.YtnkafkikjcgogaaDoorSxg
import Derived.Test.YtnkafkikjcgogaaDoorProg
set_option maxRecDepth 100000
set_option linter.unusedVariables false
set_option linter.unusedSimpArgs false
namespace Go.Proofs.YtnkafkikjcgogaaDoor.FA
open Go.Sx
theorem mixed : Tryd.prog.follows .mixedOrders = true := by kernel_rfl
theorem ag31 : aggB Tryd.prog 31 = some 6 := by kernel_rfl
theorem ap39 : appB Tryd.prog 39 = some (31, 6, 80) := by kernel_rfl
theorem en24 : entB Tryd.prog 24 = true := by kernel_rfl
theorem en27 : entB Tryd.prog 27 = true := by kernel_rfl
theorem en28 : entB Tryd.prog 28 = true := by kernel_rfl
theorem fl55_0 : fldB Tryd.prog 55 0 = some 0 := by kernel_rfl
theorem fl64_0 : fldB Tryd.prog 64 0 = some 0 := by kernel_rfl
theorem fl64_1 : fldB Tryd.prog 64 1 = some 1 := by kernel_rfl
theorem ma53 : mapB Tryd.prog 53 = some (3, 64) := by kernel_rfl
theorem pl3 : plainB Tryd.prog 3 = true := by kernel_rfl
theorem pl53 : plainB Tryd.prog 53 = true := by kernel_rfl
theorem sz64 : szB Tryd.prog 64 = some 7 := by kernel_rfl
theorem un39 : Tryd.prog.underlying 39 = some (.slice 31) := by kernel_rfl
theorem ze64 : zeroB Tryd.prog 64 = some [.int .i64 0, .int .i64 0, .int .i64 0, .int .i64 0, .int .i64 0, .slice none 0 0, .slice none 0 0] := by kernel_rfl
end Go.Proofs.YtnkafkikjcgogaaDoor.FA
