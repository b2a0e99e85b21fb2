/- Bits: numbers without a sign, as bit vectors. No program in sight. -/
import Derived.Test.YtnkafkikjcgogaaDoorSxh
set_option linter.unusedVariables false
set_option linter.unusedSimpArgs false
namespace Go.Sx
open Go.RowKit
theorem wrap_bv {k : IntKind} (hs : k.signed = false) (r : BitVec k.bits) : k.wrap (r.toNat : Int) = r.toNat := by
  have h := r.isLt
  unfold IntKind.wrap
  simp only [hs, Bool.false_and, Bool.false_eq_true, if_false]
  exact Int.emod_eq_of_lt (by omega) (by exact_mod_cast h)
theorem wrap_emod {k : IntKind} (hs : k.signed = false) (x : Int) : k.wrap x = x % 2 ^ k.bits := by
  unfold IntKind.wrap
  simp only [hs, Bool.false_and, Bool.false_eq_true, if_false]
theorem ofInt_bv {n : Nat} (a : BitVec n) : BitVec.ofInt n (a.toNat : Int) = a := by
  rw [BitVec.ofInt_natCast, BitVec.ofNat_toNat, BitVec.setWidth_eq]
/-- A whole number, cut to a kind without a sign. -/
theorem wrap_ofInt {k : IntKind} (hs : k.signed = false) (x : Int) : k.wrap x = ((BitVec.ofInt k.bits x).toNat : Int) := by
  rw [wrap_emod hs, BitVec.toNat_ofInt]
  have : (0 : Int) ≤ x % 2 ^ k.bits := Int.emod_nonneg _ (by have := Nat.two_pow_pos k.bits; exact_mod_cast (by omega : (2 : Nat) ^ k.bits ≠ 0))
  have e : ((2 ^ k.bits : Nat) : Int) = 2 ^ k.bits := by norm_cast
  rw [e]; omega
theorem own_up {a : Option Addr} {m m' : Nat} (h : ∀ b, OwnB a b → m ≤ b) (hm : m' ≤ m) : ∀ b, OwnB a b → m' ≤ b := fun b hb => Nat.le_trans hm (h b hb)
theorem own_dis {a a' o : Option Addr} {w : World} (hf : a' = a ∨ w.heap.size ≤ ab a') (h : ∀ b, OwnB a b → ¬ OwnB o b) (ho : ∀ b, OwnB o b → b < w.heap.size) : ∀ b, OwnB a' b → ¬ OwnB o b := fun b hb hx => by
  rcases hf with rfl | hf
  · exact h b hb hx
  · have := ho b hx; have := hb.2; omega
section
variable {P : Program} {ops : Array Oper} {S : World → Prop} {n : Nat} {K : Env → World → Prop} {F : Env} {w : World} {r : Tr}
variable {d : Option Tmp} {ty : TypeId} {pos : String} {af : Array Edge} {g : Option (Nat × Bool)}
theorem q_bvAnd {k : IntKind} (hs : k.signed = false) {x y : Operand} {t t' : TypeId} (a b : BitVec k.bits) (hg : gd ops n F g = true) (hx : ev n F x = .int k (a.toNat : Int)) (hy : ev n F y = .int k (b.toNat : Int))
    (h : SQ P ops S n K r (putE d (.int k ((a &&& b).toNat : Int)) F) w) : SQ P ops S n K (.q ⟨d, .binOp .and t x y t', ty, pos, af, g⟩ r) F w :=
  q_bin hg hx hy rfl (fun _ => by
    have e := wrap_bv hs (a &&& b)
    simp only [binOp, Op.intBits, ofInt_bv, ne_eq, not_true_eq_false, if_false]
    rw [e]; rfl) h
theorem q_bvOr {k : IntKind} (hs : k.signed = false) {x y : Operand} {t t' : TypeId} (a b : BitVec k.bits) (hg : gd ops n F g = true) (hx : ev n F x = .int k (a.toNat : Int)) (hy : ev n F y = .int k (b.toNat : Int))
    (h : SQ P ops S n K r (putE d (.int k ((a ||| b).toNat : Int)) F) w) : SQ P ops S n K (.q ⟨d, .binOp .or t x y t', ty, pos, af, g⟩ r) F w :=
  q_bin hg hx hy rfl (fun _ => by
    have e := wrap_bv hs (a ||| b)
    simp only [binOp, Op.intBits, ofInt_bv, ne_eq, not_true_eq_false, if_false]
    rw [e]; rfl) h
theorem q_bvXor {k : IntKind} (hs : k.signed = false) {x y : Operand} {t t' : TypeId} (a b : BitVec k.bits) (hg : gd ops n F g = true) (hx : ev n F x = .int k (a.toNat : Int)) (hy : ev n F y = .int k (b.toNat : Int))
    (h : SQ P ops S n K r (putE d (.int k ((a ^^^ b).toNat : Int)) F) w) : SQ P ops S n K (.q ⟨d, .binOp .xor t x y t', ty, pos, af, g⟩ r) F w :=
  q_bin hg hx hy rfl (fun _ => by
    have e := wrap_bv hs (a ^^^ b)
    simp only [binOp, Op.intBits, ofInt_bv, ne_eq, not_true_eq_false, if_false]
    rw [e]; rfl) h
theorem q_bvShr {k yk : IntKind} (hs : k.signed = false) {x y : Operand} {t t' : TypeId} (a : BitVec k.bits) (m : Nat) (hm : m ≤ k.bits) (hg : gd ops n F g = true) (hx : ev n F x = .int k (a.toNat : Int)) (hy : ev n F y = .int yk (m : Int))
    (h : SQ P ops S n K r (putE d (.int k ((a >>> m).toNat : Int)) F) w) : SQ P ops S n K (.q ⟨d, .binOp .shr t x y t', ty, pos, af, g⟩ r) F w :=
  q_bin hg hx hy rfl (fun _ => by
    have e : (a.toNat : Int).fdiv (2 ^ m) = ((a >>> m).toNat : Int) := by
      rw [Int.fdiv_eq_ediv_of_nonneg _ (by exact_mod_cast Nat.zero_le _), BitVec.toNat_ushiftRight, Nat.shiftRight_eq_div_pow]
      norm_cast
    have hn : ¬ ((m : Int) < 0) := by omega
    simp [binOp, Op.shift, hn, Nat.min_eq_left hm, e]) h
theorem q_bvShl {k yk : IntKind} (hs : k.signed = false) {x y : Operand} {t t' : TypeId} (a : BitVec k.bits) (m : Nat) (hm : m ≤ k.bits) (hg : gd ops n F g = true) (hx : ev n F x = .int k (a.toNat : Int)) (hy : ev n F y = .int yk (m : Int))
    (h : SQ P ops S n K r (putE d (.int k ((a <<< m).toNat : Int)) F) w) : SQ P ops S n K (.q ⟨d, .binOp .shl t x y t', ty, pos, af, g⟩ r) F w :=
  q_bin hg hx hy rfl (fun _ => by
    have e : k.wrap ((a.toNat : Int) * 2 ^ m) = ((a <<< m).toNat : Int) := by
      rw [wrap_emod hs, BitVec.toNat_shiftLeft, Nat.shiftLeft_eq]
      norm_cast
    have hn : ¬ ((m : Int) < 0) := by omega
    simp [binOp, Op.shift, hn, Nat.min_eq_left hm, e]) h
theorem q_bvNot {k : IntKind} (hs : k.signed = false) {x : Operand} {t : TypeId} (a : BitVec k.bits) (hg : gd ops n F g = true) (hx : ev n F x = .int k (a.toNat : Int))
    (h : SQ P ops S n K r (putE d (.int k ((~~~a).toNat : Int)) F) w) : SQ P ops S n K (.q ⟨d, .unOp .xor t x, ty, pos, af, g⟩ r) F w :=
  q_un hg hx (fun _ => by
    have e : BitVec.ofInt k.bits k.max = BitVec.allOnes k.bits := by
      unfold IntKind.max
      rw [hs]
      simp only [Bool.false_eq_true, if_false]
      apply BitVec.eq_of_toNat_eq
      rw [BitVec.toNat_ofInt, BitVec.toNat_allOnes]
      have h2 := Nat.two_pow_pos k.bits
      have e : ((2 ^ k.bits : Nat) : Int) = 2 ^ k.bits := by norm_cast
      rw [e, Int.emod_eq_of_lt (by have : (0 : Int) < 2 ^ k.bits := by exact_mod_cast h2
                                   omega) (by omega)]
      rw [← e]; omega
    have e2 := wrap_bv hs (~~~a)
    simp only [Op.unary, Op.intBits, hs, Bool.false_eq_true, if_false, e, ofInt_bv, BitVec.allOnes_xor]
    rw [e2]; rfl) h
theorem q_bvNeg {k : IntKind} (hs : k.signed = false) {x : Operand} {t : TypeId} (a : BitVec k.bits) (hg : gd ops n F g = true) (hx : ev n F x = .int k (a.toNat : Int))
    (h : SQ P ops S n K r (putE d (.int k ((-a).toNat : Int)) F) w) : SQ P ops S n K (.q ⟨d, .unOp .neg t x, ty, pos, af, g⟩ r) F w :=
  q_un hg hx (fun _ => by
    have e : k.wrap (0 - (a.toNat : Int)) = ((-a).toNat : Int) := by
      rw [wrap_ofInt hs]
      congr 2
      rw [Int.zero_sub, BitVec.ofInt_neg, ofInt_bv]
    simp only [Op.unary, Op.intArith, e]; rfl) h
/-- Between kinds without a sign. -/
theorem q_bvConv {x : Operand} {s t : TypeId} {j k : IntKind} (a : BitVec j.bits) (hk : k.signed = false) (hg : gd ops n F g = true) (hx : ev n F x = .int j (a.toNat : Int)) (hs : P.underlying s = some (.int j)) (ht : P.underlying t = some (.int k))
    (h : SQ P ops S n K r (putE d (.int k ((a.setWidth k.bits).toNat : Int)) F) w) : SQ P ops S n K (.q ⟨d, .convert s t x, ty, pos, af, g⟩ r) F w :=
  q_convInt hg hx hs ht (by
    rw [wrap_emod hk, BitVec.toNat_setWidth]
    norm_cast) h
/-- Into a kind without a sign. -/
theorem q_bvOf {x : Operand} {s t : TypeId} {j k : IntKind} (a : Int) (hk : k.signed = false) (hg : gd ops n F g = true) (hx : ev n F x = .int j a) (hs : P.underlying s = some (.int j)) (ht : P.underlying t = some (.int k))
    (h : SQ P ops S n K r (putE d (.int k ((BitVec.ofInt k.bits a).toNat : Int)) F) w) : SQ P ops S n K (.q ⟨d, .convert s t x, ty, pos, af, g⟩ r) F w :=
  q_convInt hg hx hs ht (wrap_ofInt hk a) h
/-- An array type: how many, of what, its cells. -/
def arrB (P : Program) (t : TypeId) : Option (Nat × Nat × Nat) := match P.underlying t with
  | some (.array m e) => (szB P e).map fun k => (m, e, k)
  | _ => none
theorem q_indexArr {x y : Operand} {t m e k b o : Nat} {i : Int} {ik : IntKind} (hg : gd ops n F g = true) (hx : ev n F x = .pointer (some ⟨b, o, none⟩)) (hy : ev n F y = .int ik i)
    (hT : arrB P t = some (m, e, k)) (h0 : 0 ≤ i) (h1 : i < m) (h : SQ P ops S n K r (putE d (.pointer (some ⟨b, o + i.toNat * k, none⟩)) F) w) :
    SQ P ops S n K (.q ⟨d, .indexAddr t x y, ty, pos, af, g⟩ r) F w :=
  q_run _ hg (fun w' _ => by
    unfold arrB at hT
    cases hu : P.underlying t with
    | none => simp [hu] at hT
    | some dd =>
      cases dd with
      | array m' e' =>
        simp only [hu, Option.map_eq_some_iff, Prod.mk.injEq] at hT
        obtain ⟨k', hk, rfl, rfl, rfl⟩ := hT
        simp [execOp, hx, hy, Instr.indexAt, asIntOf, run_underlying hu, h0, h1, run_size hk, Addr.add_plain, Instr.sureAddr]
      | _ => simp [hu] at hT) h
/-- A whole array of whole numbers. -/
theorem l_loadArr {x : Operand} {t m T b : Nat} {k : IntKind} {xs : List Int} (hS : S w) (hg : gd ops n F g = true) (hx : ev n F x = .pointer (some ⟨b, 0, none⟩)) (hT : aggB P t = some m) (hl : xs.length = m)
    (hb : Blk b (bk k xs) T w) (h : SQ P ops S n K r (putE d (.agg (bk k xs).toArray) F) w) : SQ P ops S n K (.l ⟨d, .load t x, ty, pos, af, g⟩ r) F w :=
  l_loadN hS hg hx hT (by rw [bk_len]; exact hl) hb.cells h
theorem bk_one (k : IntKind) (xs : List Int) : (bk k xs).all (·.oneCell') = true := by
  rw [List.all_eq_true]
  intro v hv
  obtain ⟨x, _, rfl⟩ := List.mem_map.1 hv; rfl
theorem l_storeArr {x y : Operand} {t T b m : Nat} {k : IntKind} {cs : List Value} {xs : List Int} (hS : Keep S (· = b) w) (hg : gd ops n F g = true) (hx : ev n F x = .pointer (some ⟨b, 0, none⟩)) (hb : Blk b cs T w)
    (hy : ev n F y = .agg (bk k xs).toArray) (hs : szB P t = some m) (hl : xs.length = m) (hc : cs.length = m)
    (h : ∀ w1, Evo (· = b) w w1 → Blk b (bk k xs) T w1 → SQ P ops S n K r (putE d undef F) w1) : SQ P ops S n K (.l ⟨d, .store t x y, ty, pos, af, g⟩ r) F w :=
  l_store (vs := bk k xs) hS hg hx hb (by rw [hy]; rfl) hs (by rw [bk_len]; exact hl) (by omega) (bk_one k xs) (by rw [bk_len, hl, Nat.zero_add, List.take_zero, List.nil_append, List.drop_of_length_le (by omega), List.append_nil]) h
end
end Go.Sx
