/- Closed facts on the translation. -/
import Derived.Test.YtnkafkikjcgogaaDoorSxg
import Derived.Test.YtnkafkikjcgogaaDoorProg
set_option maxRecDepth 100000
set_option linter.unusedVariables false
set_option linter.unusedSimpArgs false
namespace Go.Proofs.YtnkafkikjcgogaaDoor.F5
open Go.Sx
theorem mixed : Tryd.prog.follows .mixedOrders = true := by kernel_rfl
theorem ag57 : aggB Tryd.prog 57 = some 3 := by kernel_rfl
theorem el142 : elemB Tryd.prog 142 = some (34, 1) := by kernel_rfl
theorem en25 : entB Tryd.prog 25 = true := by kernel_rfl
theorem en26 : entB Tryd.prog 26 = true := by kernel_rfl
theorem en44 : entB Tryd.prog 44 = true := by kernel_rfl
theorem en52 : entB Tryd.prog 52 = true := by kernel_rfl
theorem en53 : entB Tryd.prog 53 = true := by kernel_rfl
theorem en72 : entB Tryd.prog 72 = true := by kernel_rfl
theorem en79 : entB Tryd.prog 79 = true := by kernel_rfl
theorem en97 : entB Tryd.prog 97 = true := by kernel_rfl
theorem en98 : entB Tryd.prog 98 = true := by kernel_rfl
theorem fl121_0 : fldB Tryd.prog 121 0 = some 0 := by kernel_rfl
theorem fl121_1 : fldB Tryd.prog 121 1 = some 1 := by kernel_rfl
theorem if34 : ifaceB Tryd.prog 34 = true := by kernel_rfl
theorem ni119 : (match Tryd.prog.underlying 119 with | some (.interface _) | none => false | _ => true) = true := by kernel_rfl
theorem pl3 : plainB Tryd.prog 3 = true := by kernel_rfl
theorem pl34 : plainB Tryd.prog 34 = true := by kernel_rfl
theorem pt119 : ptrB Tryd.prog 119 = some 2 := by kernel_rfl
theorem sz57 : szB Tryd.prog 57 = some 3 := by kernel_rfl
theorem ze57 : zeroB Tryd.prog 57 = some [.int .i64 0, .bool false, .int .i64 0] := by kernel_rfl
theorem zv119 : ∀ w, (Go.zeroValue 119).run Tryd.prog w = .ok (.pointer none) w := fun w => run_zeroV (by kernel_rfl) w
end Go.Proofs.YtnkafkikjcgogaaDoor.F5
