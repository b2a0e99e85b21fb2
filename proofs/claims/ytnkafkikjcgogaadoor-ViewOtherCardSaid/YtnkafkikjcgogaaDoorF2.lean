/- Closed facts on the translation. -/
import Derived.Test.YtnkafkikjcgogaaDoorSxg
import Derived.Test.YtnkafkikjcgogaaDoorProg
set_option maxRecDepth 100000
set_option linter.unusedVariables false
set_option linter.unusedSimpArgs false
namespace Go.Proofs.YtnkafkikjcgogaaDoor.F2
open Go.Sx
theorem mixed : Tryd.prog.follows .mixedOrders = true := by kernel_rfl
theorem ag46 : aggB Tryd.prog 46 = some 3 := by kernel_rfl
theorem ag61 : aggB Tryd.prog 61 = some 2 := by kernel_rfl
theorem el28 : elemB Tryd.prog 28 = some (61, 2) := by kernel_rfl
theorem el29 : elemB Tryd.prog 29 = some (46, 3) := by kernel_rfl
theorem en75 : entB Tryd.prog 75 = true := by kernel_rfl
theorem en94 : entB Tryd.prog 94 = true := by kernel_rfl
theorem en95 : entB Tryd.prog 95 = true := by kernel_rfl
theorem en96 : entB Tryd.prog 96 = true := by kernel_rfl
theorem fl61_0 : fldB Tryd.prog 61 0 = some 0 := by kernel_rfl
theorem fl61_1 : fldB Tryd.prog 61 1 = some 1 := by kernel_rfl
theorem pl2 : plainB Tryd.prog 2 = true := by kernel_rfl
theorem pl3 : plainB Tryd.prog 3 = true := by kernel_rfl
theorem st9 : Tryd.prog.underlying 9 = some .string := by kernel_rfl
theorem eg46 : Tryd.prog.eqGuardType Tryd.prog.depth 46 = false := by kernel_rfl
theorem eqT46 (w : Go.World) (a0 : ByteArray) (a1 : Int) (a2 : Int) (b0 : ByteArray) (b1 : Int) (b2 : Int) : (Go.Op.equal 46 (.agg (List.toArray [.string a0, .int .i64 a1, .int .u32 a2])) (.agg (List.toArray [.string b0, .int .i64 b1, .int .u32 b2]))).run Tryd.prog w = .ok (decide (a0 = b0) && decide (a1 = b1) && decide (a2 = b2)) w := by
  show (Go.Op.equalIn (9999 + 1) _ _ _).run _ w = _
  rw [Go.run_equalIn_agg _ _ _ _ _ (by kernel_rfl) (by kernel_rfl)]
  have hf : (Tryd.prog.fieldsOf 46).toList = [⟨"Name", 9, 0, false, "", "", 0⟩, ⟨"Len", 3, 1, false, "", "", 16⟩, ⟨"Sum", 44, 2, false, "", "", 24⟩] := by kernel_rfl
  rw [hf]
  simp [Go.Op.eqFields, Go.part, Go.isAgg, run_underlying (show Tryd.prog.underlying 9 = some .string from Tryd.underlying9), Go.run_equalIn_string w 9998 9 a0 b0 Tryd.underlying9, toList_beq, run_underlying (show Tryd.prog.underlying 3 = some (.int .i64) from Tryd.underlying3), Go.run_equalIn_int w 9998 3 .i64 .i64 a1 b1 Tryd.underlying3, run_underlying (show Tryd.prog.underlying 44 = some (.int .u32) from Tryd.underlying44), Go.run_equalIn_int w 9998 44 .u32 .u32 a2 b2 Tryd.underlying44]
  by_cases h0 : a0 = b0 <;> by_cases h1 : a1 = b1 <;> by_cases h2 : a2 = b2 <;> simp [h0, h1, h2]
theorem eg61 : Tryd.prog.eqGuardType Tryd.prog.depth 61 = false := by kernel_rfl
theorem eqT61 (w : Go.World) (a0 : Int) (a1 : Int) (b0 : Int) (b1 : Int) : (Go.Op.equal 61 (.agg (List.toArray [.int .i64 a0, .int .i64 a1])) (.agg (List.toArray [.int .i64 b0, .int .i64 b1]))).run Tryd.prog w = .ok (decide (a0 = b0) && decide (a1 = b1)) w := by
  show (Go.Op.equalIn (9999 + 1) _ _ _).run _ w = _
  rw [Go.run_equalIn_agg _ _ _ _ _ (by kernel_rfl) (by kernel_rfl)]
  have hf : (Tryd.prog.fieldsOf 61).toList = [⟨"Epoch", 3, 0, false, "", "", 0⟩, ⟨"Start", 2, 1, false, "", "", 8⟩] := by kernel_rfl
  rw [hf]
  simp [Go.Op.eqFields, Go.part, Go.isAgg, run_underlying (show Tryd.prog.underlying 3 = some (.int .i64) from Tryd.underlying3), Go.run_equalIn_int w 9998 3 .i64 .i64 a0 b0 Tryd.underlying3, run_underlying (show Tryd.prog.underlying 2 = some (.int .i64) from Tryd.underlying2), Go.run_equalIn_int w 9998 2 .i64 .i64 a1 b1 Tryd.underlying2]
  by_cases h0 : a0 = b0 <;> by_cases h1 : a1 = b1 <;> simp [h0, h1]
end Go.Proofs.YtnkafkikjcgogaaDoor.F2
