/- Arrays and slices of whole numbers that are written in place. No program in sight. -/
import Derived.Test.YtnkafkikjcgogaaDoorSxg
set_option linter.unusedVariables false
set_option linter.unusedSimpArgs false
namespace Go.Sx
open Go.RowKit
/-- Whole numbers' cells. -/
def bk (k : IntKind) (xs : List Int) : List Value := xs.map (Value.int k)
theorem bk_len (k : IntKind) (xs : List Int) : (bk k xs).length = xs.length := by simp [bk]
theorem bk_get {k : IntKind} {xs : List Int} {i : Nat} {s : Int} (h : xs[i]? = some s) : (bk k xs)[i]? = some (.int k s) := by unfold bk; rw [List.getElem?_map, h]; rfl
theorem Blk.cellI {b : Nat} {k : IntKind} {xs : List Int} {T : TypeId} {w : World} (h : Blk b (bk k xs) T w) {i : Int} {s : Int} (hs : xs[i.toNat]? = some s) : w.cell? ⟨b, 0 + i.toNat * 1, none⟩ = some (.int k s) := by
  rw [h.cell, Nat.zero_add, Nat.mul_one]; exact bk_get hs
theorem bk_set (k : IntKind) (xs : List Int) (i : Nat) (v : Int) (hi : i < xs.length) : (bk k xs).take (0 + i * 1) ++ [Value.int k v] ++ (bk k xs).drop (0 + i * 1 + [Value.int k v].length) = bk k (xs.set i v) := by
  unfold bk
  rw [Nat.zero_add, Nat.mul_one, List.map_set, List.set_eq_take_append_cons_drop, if_pos (by simpa using hi)]
  simp
theorem get_lt {xs : List Int} {i : Nat} (h : i < xs.length) : ∃ s, xs[i]? = some s := ⟨_, List.getElem?_eq_getElem h⟩
section
variable {P : Program} {ops : Array Oper} {S : World → Prop} {n : Nat} {K : Env → World → Prop} {F : Env} {w : World} {r : Tr}
variable {d : Option Tmp} {ty : TypeId} {pos : String} {af : Array Edge} {g : Option (Nat × Bool)}
/-- make([]int, m, m) -/
theorem l_makeI {M : Nat → Prop} {x y : Operand} {t e B m : Nat} {mi : Int} {k : IntKind} (hS : Keep S No w) (hM : Old M w) (hg : gd ops n F g = true) (hx : ev n F x = .int .i64 mi) (hy : ev n F y = .int .i64 mi) (hmi : mi = m)
    (hA : appB P t = some (e, 1, B)) (hz : zeroB P e = some [.int k 0]) (hc : m ≤ 4294967296) (hB : B ≤ 1024)
    (h : ∀ b w1, Evo No w w1 → Blk b (bk k (List.replicate m 0)) e w1 → w.heap.size ≤ b → Old (Plus M b) w1 → SQ P ops S n K r (putE d (.slice (some ⟨b, 0, none⟩) m m) F) w1) :
    SQ P ops S n K (.l ⟨d, .makeSlice t x y, ty, pos, af, g⟩ r) F w := by
  obtain ⟨z, cs, hz1, hz2, hl, hcs, hr⟩ := run_makeSlice hA m m (Nat.le_refl _) hc hB w
  have hzc : z.cells = #[.int k 0] := by
    unfold zeroB at hz
    rw [hz1] at hz
    simp only [Option.map_some, Option.some.injEq] at hz
    exact Array.ext' (by rw [hz])
  have hcs' : cs = bk k (List.replicate m 0) := by
    apply List.ext_getElem?
    intro i
    by_cases hi : i < m
    · rw [hcs i (by omega), hzc, Nat.mod_one]
      unfold bk
      rw [List.map_replicate, List.getElem?_replicate, if_pos hi]; rfl
    · rw [List.getElem?_eq_none (by omega), List.getElem?_eq_none (by simp [bk]; omega)]
  subst hcs' hmi
  refine l_val (w1 := w.alloc (.cells (bk k (List.replicate m 0)).toArray e)) _ hg ?_ (hS _ (Evo.alloc w _)) (h w.heap.size _ (Evo.alloc w _) (Blk.new w _ e) (Nat.le_refl _) ((hM.on (Evo.alloc w _)).plus (by simp)))
  simp only [execOp, hx, hy, Sem.run_bind]
  have : (Instr.makeSlice t (.int .i64 (m : Int)) (.int .i64 (m : Int))).run P w = _ := hr
  rw [this]; rfl
theorem l_storeI {x y : Operand} {t T b : Nat} {k : IntKind} {xs : List Int} {i v : Int} (hS : Keep S (· = b) w) (hg : gd ops n F g = true) (hx : ev n F x = .pointer (some ⟨b, 0 + i.toNat * 1, none⟩)) (hb : Blk b (bk k xs) T w)
    (hy : ev n F y = .int k v) (hs : szB P t = some 1) (hi : i.toNat < xs.length)
    (h : ∀ w1, Evo (· = b) w w1 → Blk b (bk k (xs.set i.toNat v)) T w1 → SQ P ops S n K r (putE d undef F) w1) : SQ P ops S n K (.l ⟨d, .store t x y, ty, pos, af, g⟩ r) F w :=
  l_store (vs := [.int k v]) hS hg hx hb (by rw [hy]; rfl) hs rfl (by rw [bk_len]; omega) rfl (bk_set k xs i.toNat v hi) h
end
theorem tdiv_bd (x b : Int) (hb : 0 < b) (h0 : -9223372036854775808 ≤ x) (h1 : x ≤ 9223372036854775807) : -9223372036854775808 ≤ x.tdiv b ∧ x.tdiv b ≤ 9223372036854775807 := by
  by_cases hx : 0 ≤ x
  · have := Int.tdiv_nonneg hx (b := b) (by omega)
    have := Int.tdiv_le_self b hx
    omega
  · have e : x.tdiv b = -((-x).tdiv b) := by rw [Int.neg_tdiv, Int.neg_neg]
    have := Int.tdiv_nonneg (a := -x) (b := b) (by omega) (by omega)
    have := Int.tdiv_le_self (a := -x) b (by omega)
    omega
end Go.Sx
