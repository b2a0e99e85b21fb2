/- Numbers and sums as bytes. -/
import Derived.Test.YtnkafkikjcgogaaDoorMod
import Derived.Test.YtnkafkikjcgogaaDoorSxi
namespace Go.Proofs.YtnkafkikjcgogaaDoor
open Go.Sx
def encB (c : UInt8) : List Value := [.int .u8 (c.toNat : Int)]
abbrev tU8 : Nat := 5
theorem strRows_encB (s : ByteArray) : strRows s = s.data.toList.map encB := rfl
/-- A number's bytes. -/
def putN (n : Nat) : List UInt8 := if h : n < 128 then [UInt8.ofNat n] else (UInt8.ofNat n ||| 128) :: putN (n / 128)
termination_by n
decreasing_by omega
def lim : Nat → Nat
  | 0 => 18446744073709551616
  | 1 => 144115188075855872
  | 2 => 1125899906842624
  | 3 => 8796093022208
  | 4 => 68719476736
  | 5 => 536870912
  | 6 => 4194304
  | 7 => 32768
  | 8 => 256
  | _ => 2
theorem lim_step {j x : Nat} (hj : j ≤ 9) (h : x < lim j) (h2 : 128 ≤ x) : j < 9 ∧ x / 128 < lim (j + 1) := by
  have : j = 0 ∨ j = 1 ∨ j = 2 ∨ j = 3 ∨ j = 4 ∨ j = 5 ∨ j = 6 ∨ j = 7 ∨ j = 8 ∨ j = 9 := by omega
  rcases this with rfl | rfl | rfl | rfl | rfl | rfl | rfl | rfl | rfl | rfl <;> simp only [lim] at * <;> omega
theorem putN_lo {n : Nat} (h : n < 128) : putN n = [UInt8.ofNat n] := by rw [putN, dif_pos h]
theorem putN_hi {n : Nat} (h : 128 ≤ n) : putN n = (UInt8.ofNat n ||| 128) :: putN (n / 128) := by rw [putN, dif_neg (by omega)]
theorem putN_len : ∀ (j n : Nat), j ≤ 9 → n < lim j → (putN n).length ≤ 10 - j := by
  intro j
  induction hk : 9 - j generalizing j with
  | zero =>
    intro n hj hn
    by_cases h : n < 128
    · rw [putN_lo h]; simp; omega
    · have := (lim_step hj hn (by omega)).1; omega
  | succ k ih =>
    intro n hj hn
    by_cases h : n < 128
    · rw [putN_lo h]; simp; omega
    · obtain ⟨h1, h2⟩ := lim_step hj hn (by omega)
      rw [putN_hi (by omega), List.length_cons]
      have := ih (j + 1) (by omega) (n / 128) (by omega) h2
      omega
theorem putN_len10 {n : Nat} (h : n < 18446744073709551616) : (putN n).length ≤ 10 := putN_len 0 n (by omega) h
theorem byte_of (x : BitVec 64) : (⟨x.setWidth 8⟩ : UInt8) = UInt8.ofNat x.toNat := by
  apply UInt8.toNat_inj.1
  simp [UInt8.toNat, UInt8.ofNat, BitVec.toNat_setWidth]
theorem byte_hi (x : BitVec 64) : (⟨x.setWidth 8 ||| 128#8⟩ : UInt8) = UInt8.ofNat x.toNat ||| 128 := by
  rw [← byte_of]; rfl
theorem shr7 (x : BitVec 64) : (x >>> 7).toNat = x.toNat / 128 := by rw [BitVec.toNat_ushiftRight, Nat.shiftRight_eq_div_pow]

/-! ### Sums -/
def poly : BitVec 32 := 2197175160#32
def halfStep (x : BitVec 32) : BitVec 32 := (x >>> 1) ^^^ ((-(x &&& 1#32)) &&& poly)
def halfOf : Nat → BitVec 32 → BitVec 32
  | 0, x => x
  | k + 1, x => halfOf k (halfStep x)
def tabB : List (BitVec 32) := (List.range 16).map fun i => halfOf 4 (BitVec.ofNat 32 i)
def tabI : List Int := tabB.map fun x => (x.toNat : Int)
def tabAt (x : BitVec 32) : BitVec 32 := tabB.getD (x &&& 15#32).toNat 0
def nib (x : BitVec 32) : BitVec 32 := (x >>> 4) ^^^ tabAt x
def crcStep (x : BitVec 32) (c : UInt8) : BitVec 32 := nib (nib (x ^^^ c.toBitVec.setWidth 32))
def moreM (s : BitVec 32) (l : List UInt8) : BitVec 32 := ~~~ (l.foldl crcStep (~~~ s))
def sumM (l : List UInt8) : BitVec 32 := moreM 0 l
def le4 (x : BitVec 32) : List UInt8 := [⟨x.setWidth 8⟩, ⟨(x >>> 8).setWidth 8⟩, ⟨(x >>> 16).setWidth 8⟩, ⟨(x >>> 24).setWidth 8⟩]
def sealM (l : List UInt8) : List UInt8 := l ++ le4 (sumM l)
theorem sealM_len (l : List UInt8) : (sealM l).length = l.length + 4 := by simp [sealM, le4]
theorem and15 (x : BitVec 32) : (x &&& 15#32).toNat < 16 := by
  rw [BitVec.toNat_and]
  exact Nat.lt_of_le_of_lt Nat.and_le_right (by decide)
theorem tab_get {i : Nat} {s : Int} (h : tabI[i]? = some s) : s = ((tabB.getD i 0).toNat : Int) := by
  unfold tabI at h
  rw [List.getElem?_map] at h
  cases ht : tabB[i]? with
  | none => rw [ht] at h; cases h
  | some t =>
    rw [ht] at h
    simp only [Option.map_some, Option.some.injEq] at h
    rw [List.getD_eq_getElem?_getD, ht, ← h]; rfl
theorem tabI_len : tabI.length = 16 := by simp [tabI, tabB]
theorem tab_snoc {i : Nat} (hi : i < 16) : (tabI.take i ++ List.replicate (16 - i) 0).set i ((halfOf 4 (BitVec.ofNat 32 i)).toNat : Int) = tabI.take (i + 1) ++ List.replicate (16 - (i + 1)) 0 := by
  have hl : (tabI.take i).length = i := by rw [List.length_take, tabI_len]; omega
  have hg : tabI[i]? = some ((halfOf 4 (BitVec.ofNat 32 i)).toNat : Int) := by
    unfold tabI tabB
    rw [List.getElem?_map, List.getElem?_map, List.getElem?_range hi]; rfl
  rw [List.set_append_right _ _ (by omega), hl, Nat.sub_self, show 16 - i = (16 - (i + 1)) + 1 from by omega, List.replicate_succ, List.set_cons_zero, List.take_add_one, hg]
  simp
/-- The sum of parts. -/
def ofM (l : List (List UInt8)) : BitVec 32 := l.foldl moreM 0
/-- Parts in memory: each with the slice that it is read through. -/
abbrev Part := List UInt8 × Option Addr × Nat × Nat
def encPart (x : Part) : List Value := [.slice x.2.1 x.2.2.1 x.2.2.2]
/-- A whole number's bytes; one with a sign. -/
def nB (n : Int) : List UInt8 := putN (BitVec.ofInt 64 n).toNat
def zzB (n : Int) : BitVec 64 := ((BitVec.ofInt 64 n) <<< 1) ^^^ BitVec.ofInt 64 (n.fdiv 9223372036854775808)
def iB (n : Int) : List UInt8 := putN (zzB n).toNat
theorem nB_len (n : Int) : (nB n).length ≤ 10 := putN_len10 (BitVec.isLt _)
theorem iB_len (n : Int) : (iB n).length ≤ 10 := putN_len10 (BitVec.isLt _)
def epochB (p : Int × Int) : List UInt8 := nB p.1 ++ nB p.2
def objB (o : Obj) : List UInt8 := nB o.name.size ++ o.name.data.toList ++ nB o.len ++ nB o.sum
def headB (m : Mani) : List UInt8 := nB m.id ++ nB m.base ++ nB m.end_ ++ iB m.time ++ nB m.epochs.length
def bodyB (m : Mani) : List UInt8 := headB m ++ m.epochs.flatMap epochB ++ nB m.objects.length ++ m.objects.flatMap objB
/-- A manifest's bytes. -/
def maniB (m : Mani) : List UInt8 := sealM (bodyB m)
theorem flat_snoc {α : Type} {xs : List α} {f : α → List UInt8} {j : Nat} {x : α} (h : xs[j]? = some x) : (xs.take (j + 1)).flatMap f = (xs.take j).flatMap f ++ f x := by
  rw [List.take_add_one, h]; simp
theorem put_bd {t : Nat} {bs l : List UInt8} {a : Option Addr} {n c k : Nat} {w : World} (h : Own 1 t ((bs ++ l).map encB) a n c w) (hb : bs.length ≤ k) (hl : l.length ≤ 10) : n ≤ k + 10 := by
  have := h.len
  rw [List.length_map, List.length_append] at this
  omega
end Go.Proofs.YtnkafkikjcgogaaDoor
