/- Whole numbers' bits; a cell of a slice that was built, written. -/
import Derived.Test.YtnkafkikjcgogaaDoorSxi
set_option linter.unusedVariables false
set_option linter.unusedSimpArgs false
namespace Go.Sx
open Go
def xorI (k : IntKind) (a b : Int) : Int := k.wrap ((BitVec.ofInt k.bits a ^^^ BitVec.ofInt k.bits b).toNat : Int)
theorem ofInt_wrap (k : IntKind) (z : Int) : BitVec.ofInt k.bits (k.wrap z) = BitVec.ofInt k.bits z := by
  apply BitVec.eq_of_toNat_eq
  rw [BitVec.toNat_ofInt, BitVec.toNat_ofInt]
  congr 1
  unfold IntKind.wrap
  have e : ((2 ^ k.bits : Nat) : Int) = 2 ^ k.bits := by norm_cast
  rw [e]
  simp only []
  split
  · rw [show z % 2 ^ k.bits - 2 ^ k.bits = z % 2 ^ k.bits + 2 ^ k.bits * (-1) by omega, Int.add_mul_emod_self_left, Int.emod_emod_of_dvd _ (Int.dvd_refl _)]
  · rw [Int.emod_emod_of_dvd _ (Int.dvd_refl _)]
theorem xorI_ne (k : IntKind) (a b : Int) (hb : BitVec.ofInt k.bits b ≠ 0) : xorI k a b ≠ a := by
  intro h
  have h1 := congrArg (BitVec.ofInt k.bits) h
  unfold xorI at h1
  rw [ofInt_wrap, ofInt_bv] at h1
  apply hb
  have h2 := congrArg (BitVec.ofInt k.bits a ^^^ ·) h1
  simpa [← BitVec.xor_assoc] using h2
theorem flatten_set {k : Nat} : ∀ (rows : List (List Value)) (i : Nat) (r : List Value) (j : Nat) (v : Value), (∀ r ∈ rows, r.length = k) → rows[i]? = some r → j < k → (rows.set i (r.set j v)).flatten = rows.flatten.set (i * k + j) v
  | [], i, r, j, v, _, h, _ => by simp at h
  | r0 :: rows, 0, r, j, v, hs, h, hj => by
    simp only [List.getElem?_cons_zero, Option.some.injEq] at h
    subst h
    rw [List.set_cons_zero, List.flatten_cons, List.flatten_cons, List.set_append, if_pos (by rw [hs r0 (by simp)]; omega), Nat.zero_mul, Nat.zero_add]
  | r0 :: rows, i + 1, r, j, v, hs, h, hj => by
    have hk := hs r0 (by simp)
    have e : (i + 1) * k + j - r0.length = i * k + j := by rw [hk, Nat.succ_mul]; omega
    rw [List.set_cons_succ, List.flatten_cons, List.flatten_cons, List.set_append, if_neg (by rw [hk, Nat.succ_mul]; omega), e, flatten_set rows i r j v (fun r hr => hs r (by simp [hr])) (by simpa using h) hj]
theorem Own.some {k e : Nat} {rows : List (List Value)} {a : Option Addr} {n c : Nat} {w : World} (h : Own k e rows a n c w) (hn : 0 < n) : ∃ b, a = some ⟨b, 0, none⟩ := by
  rcases h.row with ⟨_, h2, _⟩ | ⟨cs, h1, _⟩
  · omega
  · exact ⟨_, h1⟩
theorem Old.plusN {M X : Nat → Prop} {b : Nat} {w w' : World} (h : Old M w) (s : Evo X w w') (hb : b < w'.heap.size) : Old (Plus M b) w' := fun x hx => hx.elim (fun h1 => Nat.lt_of_lt_of_le (h x h1) s.size) (fun e => e ▸ hb)
section
variable {P : Program} {ops : Array Oper} {S : World → Prop} {n : Nat} {K : Env → World → Prop} {F : Env} {w : World} {r : Tr}
variable {d : Option Tmp} {ty : TypeId} {pos : String} {af : Array Edge} {g : Option (Nat × Bool)}
theorem q_xorI {k : IntKind} {x y : Operand} {t t' : TypeId} (a b : Int) (hg : gd ops n F g = true) (hx : ev n F x = .int k a) (hy : ev n F y = .int k b)
    (h : SQ P ops S n K r (putE d (.int k (xorI k a b)) F) w) : SQ P ops S n K (.q ⟨d, .binOp .xor t x y t', ty, pos, af, g⟩ r) F w :=
  q_bin hg hx hy rfl (fun _ => by
    simp only [binOp, Op.intBits, ne_eq, not_true_eq_false, if_false]
    rfl) h
theorem l_storeOwn {x y : Operand} {t e k len c i j b : Nat} {v : Value} {r0 : List Value} {rows rows' : List (List Value)} (hS : Keep S (· = b) w) (hg : gd ops n F g = true) (hO : Own k e rows (some ⟨b, 0, none⟩) len c w)
    (hx : ev n F x = .pointer (some ⟨b, 0 + i * k + j, none⟩)) (hy : ev n F y = v) (hs : szB P t = some 1) (hc : v.cells = #[v]) (h1 : v.oneCell' = true) (hr : rows[i]? = some r0) (hj : j < k) (hrows : rows.set i (r0.set j v) = rows')
    (h : ∀ w1, Evo (· = b) w w1 → Own k e rows' (some ⟨b, 0, none⟩) len c w1 → SQ P ops S n K r (putE d undef F) w1) : SQ P ops S n K (.l ⟨d, .store t x y, ty, pos, af, g⟩ r) F w := by
  subst hrows
  rcases hO.row with ⟨h2, _⟩ | ⟨cs, h2, h3, h4, h5, h6⟩
  · cases h2
  have hi : i < rows.length := by
    rcases Nat.lt_or_ge i rows.length with h' | h'
    · exact h'
    · rw [List.getElem?_eq_none h'] at hr; cases hr
  have hl := hO.len
  have hm : i * k + k ≤ len * k := by rw [← Nat.succ_mul]; exact Nat.mul_le_mul_right k (by omega)
  have hm2 : len * k ≤ c * k := Nat.mul_le_mul_right k h5
  rw [Nat.zero_add] at hx
  refine l_store (k := 1) (vs := [v]) (cs' := cs.set (i * k + j) v) hS hg hx h3 (by rw [hy, hc]) hs rfl (by omega) (by simp [h1]) (by
    rw [List.set_eq_take_append_cons_drop, if_pos (by omega)]; simp) (fun w1 s B => h w1 s ⟨by simpa using hl, fun q hq => ?_, ?_, .inr ⟨cs.set (i * k + j) v, h2, B, by simpa using h4, h5, ?_⟩⟩)
  · rcases List.mem_or_eq_of_mem_set hq with hq | rfl
    · exact hO.shape q hq
    · rw [List.length_set]; exact hO.shape r0 (List.mem_of_getElem? hr)
  · rw [flatten_set rows i r0 j v hO.shape hr hj, List.all_eq_true]
    intro u hu
    rcases List.mem_or_eq_of_mem_set hu with hu | rfl
    · exact List.all_eq_true.1 hO.one u hu
    · exact h1
  · rw [flatten_set rows i r0 j v hO.shape hr hj, ← h6, List.take_set]
end
end Go.Sx
