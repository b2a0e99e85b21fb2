/- Closed facts on the translation. -/
import Derived.Test.YtnkafkikjcgogaaDoorSxg
import Derived.Test.YtnkafkikjcgogaaDoorProg
set_option maxRecDepth 100000
set_option linter.unusedVariables false
set_option linter.unusedSimpArgs false
namespace Go.Proofs.YtnkafkikjcgogaaDoor.F4
open Go.Sx
theorem mixed : Tryd.prog.follows .mixedOrders = true := by kernel_rfl
theorem ag31 : aggB Tryd.prog 31 = some 6 := by kernel_rfl
theorem ag46 : aggB Tryd.prog 46 = some 3 := by kernel_rfl
theorem ap76 : appB Tryd.prog 76 = some (9, 1, 16) := by kernel_rfl
theorem el22 : elemB Tryd.prog 22 = some (3, 1) := by kernel_rfl
theorem el29 : elemB Tryd.prog 29 = some (46, 3) := by kernel_rfl
theorem el76 : elemB Tryd.prog 76 = some (9, 1) := by kernel_rfl
theorem en21 : entB Tryd.prog 21 = true := by kernel_rfl
theorem en22 : entB Tryd.prog 22 = true := by kernel_rfl
theorem en23 : entB Tryd.prog 23 = true := by kernel_rfl
theorem en24 : entB Tryd.prog 24 = true := by kernel_rfl
theorem en32 : entB Tryd.prog 32 = true := by kernel_rfl
theorem en33 : entB Tryd.prog 33 = true := by kernel_rfl
theorem en54 : entB Tryd.prog 54 = true := by kernel_rfl
theorem en58 : entB Tryd.prog 58 = true := by kernel_rfl
theorem fl31_0 : fldB Tryd.prog 31 0 = some 0 := by kernel_rfl
theorem fl31_5 : fldB Tryd.prog 31 5 = some 5 := by kernel_rfl
theorem fl37_0 : fldB Tryd.prog 37 0 = some 0 := by kernel_rfl
theorem fl37_1 : fldB Tryd.prog 37 1 = some 1 := by kernel_rfl
theorem fl46_0 : fldB Tryd.prog 46 0 = some 0 := by kernel_rfl
theorem fl55_0 : fldB Tryd.prog 55 0 = some 0 := by kernel_rfl
theorem fl64_0 : fldB Tryd.prog 64 0 = some 0 := by kernel_rfl
theorem fl64_1 : fldB Tryd.prog 64 1 = some 1 := by kernel_rfl
theorem fp64_0 : fldP Tryd.prog 64 0 = some 0 := by kernel_rfl
theorem if34 : ifaceB Tryd.prog 34 = true := by kernel_rfl
theorem ma53 : mapB Tryd.prog 53 = some (3, 64) := by kernel_rfl
theorem pl29 : plainB Tryd.prog 29 = true := by kernel_rfl
theorem pl3 : plainB Tryd.prog 3 = true := by kernel_rfl
theorem pl34 : plainB Tryd.prog 34 = true := by kernel_rfl
theorem pl53 : plainB Tryd.prog 53 = true := by kernel_rfl
theorem pl9 : plainB Tryd.prog 9 = true := by kernel_rfl
theorem sz46 : szB Tryd.prog 46 = some 3 := by kernel_rfl
theorem sz64 : szB Tryd.prog 64 = some 7 := by kernel_rfl
theorem un76 : Tryd.prog.underlying 76 = some (.slice 9) := by kernel_rfl
theorem ze46 : zeroB Tryd.prog 46 = some [.string (⟨#[]⟩ : ByteArray), .int .i64 0, .int .u32 0] := by kernel_rfl
theorem ze64 : zeroB Tryd.prog 64 = some [.int .i64 0, .int .i64 0, .int .i64 0, .int .i64 0, .int .i64 0, .slice none 0 0, .slice none 0 0] := by kernel_rfl
theorem zv64 : ∀ w, (Go.zeroValue 64).run Tryd.prog w = .ok (.agg (List.toArray [.int .i64 0, .int .i64 0, .int .i64 0, .int .i64 0, .int .i64 0, .slice none 0 0, .slice none 0 0])) w := fun w => run_zeroV (by kernel_rfl) w
end Go.Proofs.YtnkafkikjcgogaaDoor.F4
