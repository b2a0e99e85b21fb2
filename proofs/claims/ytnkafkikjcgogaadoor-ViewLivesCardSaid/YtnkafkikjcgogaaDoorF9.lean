/- Closed facts on the translation. -/
import Derived.Test.YtnkafkikjcgogaaDoorSxg
import Derived.Test.YtnkafkikjcgogaaDoorProg
set_option maxRecDepth 100000
set_option linter.unusedVariables false
set_option linter.unusedSimpArgs false
namespace Go.Proofs.YtnkafkikjcgogaaDoor.F9
open Go.Sx
theorem mixed : Tryd.prog.follows .mixedOrders = true := by kernel_rfl
theorem ag37 : aggB Tryd.prog 37 = some 7 := by kernel_rfl
theorem en10 : entB Tryd.prog 10 = true := by kernel_rfl
theorem en11 : entB Tryd.prog 11 = true := by kernel_rfl
theorem en12 : entB Tryd.prog 12 = true := by kernel_rfl
theorem en7 : entB Tryd.prog 7 = true := by kernel_rfl
theorem if34 : ifaceB Tryd.prog 34 = true := by kernel_rfl
theorem pt24 : ptrB Tryd.prog 24 = some 1 := by kernel_rfl
theorem sz37 : szB Tryd.prog 37 = some 7 := by kernel_rfl
theorem ze37 : zeroB Tryd.prog 37 = some [.int .i64 0, .int .i64 0, .int .i64 0, .int .i64 0, .int .i64 0, .slice none 0 0, .slice none 0 0] := by kernel_rfl
end Go.Proofs.YtnkafkikjcgogaaDoor.F9
