/- Closed facts on the translation. -/
import Derived.Test.YtnkafkikjcgogaaDoorSxg
import Derived.Test.YtnkafkikjcgogaaDoorProg
set_option maxRecDepth 100000
set_option linter.unusedVariables false
set_option linter.unusedSimpArgs false
namespace Go.Proofs.YtnkafkikjcgogaaDoor.F3
open Go.Sx
theorem mixed : Tryd.prog.follows .mixedOrders = true := by kernel_rfl
theorem ag31 : aggB Tryd.prog 31 = some 6 := by kernel_rfl
theorem ag46 : aggB Tryd.prog 46 = some 3 := by kernel_rfl
theorem el28 : elemB Tryd.prog 28 = some (61, 2) := by kernel_rfl
theorem el29 : elemB Tryd.prog 29 = some (46, 3) := by kernel_rfl
theorem en45 : entB Tryd.prog 45 = true := by kernel_rfl
theorem en46 : entB Tryd.prog 46 = true := by kernel_rfl
theorem en47 : entB Tryd.prog 47 = true := by kernel_rfl
theorem en48 : entB Tryd.prog 48 = true := by kernel_rfl
theorem en49 : entB Tryd.prog 49 = true := by kernel_rfl
theorem en50 : entB Tryd.prog 50 = true := by kernel_rfl
theorem en51 : entB Tryd.prog 51 = true := by kernel_rfl
theorem en73 : entB Tryd.prog 73 = true := by kernel_rfl
theorem en74 : entB Tryd.prog 74 = true := by kernel_rfl
theorem en76 : entB Tryd.prog 76 = true := by kernel_rfl
theorem en77 : entB Tryd.prog 77 = true := by kernel_rfl
theorem en78 : entB Tryd.prog 78 = true := by kernel_rfl
theorem fl31_0 : fldB Tryd.prog 31 0 = some 0 := by kernel_rfl
theorem fl31_1 : fldB Tryd.prog 31 1 = some 1 := by kernel_rfl
theorem fl31_2 : fldB Tryd.prog 31 2 = some 2 := by kernel_rfl
theorem fl31_3 : fldB Tryd.prog 31 3 = some 3 := by kernel_rfl
theorem fl31_4 : fldB Tryd.prog 31 4 = some 4 := by kernel_rfl
theorem fl31_5 : fldB Tryd.prog 31 5 = some 5 := by kernel_rfl
theorem fl46_0 : fldB Tryd.prog 46 0 = some 0 := by kernel_rfl
theorem fl46_1 : fldB Tryd.prog 46 1 = some 1 := by kernel_rfl
theorem fl61_0 : fldB Tryd.prog 61 0 = some 0 := by kernel_rfl
theorem fl61_1 : fldB Tryd.prog 61 1 = some 1 := by kernel_rfl
theorem if34 : ifaceB Tryd.prog 34 = true := by kernel_rfl
theorem ni119 : (match Tryd.prog.underlying 119 with | some (.interface _) | none => false | _ => true) = true := by kernel_rfl
theorem pl2 : plainB Tryd.prog 2 = true := by kernel_rfl
theorem pl28 : plainB Tryd.prog 28 = true := by kernel_rfl
theorem pl29 : plainB Tryd.prog 29 = true := by kernel_rfl
theorem pl3 : plainB Tryd.prog 3 = true := by kernel_rfl
theorem pl34 : plainB Tryd.prog 34 = true := by kernel_rfl
theorem pl9 : plainB Tryd.prog 9 = true := by kernel_rfl
theorem sz28 : szB Tryd.prog 28 = some 1 := by kernel_rfl
theorem sz29 : szB Tryd.prog 29 = some 1 := by kernel_rfl
theorem sz31 : szB Tryd.prog 31 = some 6 := by kernel_rfl
theorem sz46 : szB Tryd.prog 46 = some 3 := by kernel_rfl
theorem ze31 : zeroB Tryd.prog 31 = some [.int .i64 0, .int .i64 0, .int .i64 0, .int .i64 0, .slice none 0 0, .slice none 0 0] := by kernel_rfl
theorem ze46 : zeroB Tryd.prog 46 = some [.string (⟨#[]⟩ : ByteArray), .int .i64 0, .int .u32 0] := by kernel_rfl
end Go.Proofs.YtnkafkikjcgogaaDoor.F3
