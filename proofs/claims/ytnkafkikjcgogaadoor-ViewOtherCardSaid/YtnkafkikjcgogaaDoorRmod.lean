/- The models of the references that make the statements' manifests. -/
import Derived.Test.YtnkafkikjcgogaaDoorSxg
import Derived.Test.YtnkafkikjcgogaaDoorVmod
namespace Go.Proofs.YtnkafkikjcgogaaDoor
open Go.Sx
def okk (c : UInt8) : Bool := decide (97 ≤ c.toNat) && decide (c.toNat ≤ 122)
def kindlyM (s : ByteArray) : Bool := decide (1 ≤ s.size) && decide (s.size ≤ 8) && s.data.toList.all okk
def tenD : ByteArray := ⟨#[48, 49, 50, 51, 52, 53, 54, 55, 56, 57]⟩
def chrOf (d : Int) : ByteArray := tenD.extract d.toNat (d + 1).toNat
/-- A number's digits, ahead of t. -/
def digs : Nat → Int → ByteArray → ByteArray
  | 0, _, t => t
  | k + 1, n, t => digs k (n.tdiv 10) (chrOf (n.tmod 10) ++ t)
theorem ext_size (d : Int) : (tenD.extract d.toNat (d + 1).toNat).size ≤ 1 := by
  rw [ByteArray.size_extract]; show min _ 10 - _ ≤ 1; omega
theorem size_chr (d : Int) (t : ByteArray) : (chrOf d ++ t).size ≤ t.size + 1 := by
  rw [ByteArray.size_append]; have := ext_size d; unfold chrOf; omega
theorem szL (l : List UInt8) : ByteArray.size ⟨l.toArray⟩ = l.length := rfl
theorem digs_size : ∀ (k : Nat) (n : Int) (t : ByteArray), (digs k n t).size ≤ t.size + k
  | 0, _, _ => Nat.le_refl _
  | k + 1, n, t => by
    have h1 := digs_size k (n.tdiv 10) (chrOf (n.tmod 10) ++ t)
    have h2 := size_chr (n.tmod 10) t
    show (digs k (n.tdiv 10) (chrOf (n.tmod 10) ++ t)).size ≤ _
    omega
def nul : ByteArray := ⟨#[]⟩
/-- An object's name. -/
def objName (id : Int) (kind : ByteArray) (base : Int) : ByteArray :=
  (((((⟨#[115, 101, 103, 45]⟩ : ByteArray) ++ digs 10 id nul) ++ (⟨#[45]⟩ : ByteArray)) ++ kind) ++ (⟨#[45]⟩ : ByteArray)) ++ digs 13 base nul

theorem objsBad_ok : ∀ (l : List Obj) (i : Int), objsBad i l = .ok → ∀ o ∈ l, validName o.name = true ∧ 0 ≤ o.len ∧ o.len ≤ 1073741824
  | [], _, _ => by simp
  | o :: r, i, h => by
    simp only [objsBad] at h
    split at h
    · rename_i h1
      split at h
      · cases h
      · rename_i h2
        intro x hx
        rcases List.mem_cons.1 hx with rfl | hx
        · exact ⟨h1, by omega, by omega⟩
        · exact objsBad_ok r _ h x hx
    · cases h
theorem dup_ok : ∀ (l d : List Obj), dupFrom d l = false → ∀ (i j : Nat) (a b : Obj), i < j → (d ++ l)[i]? = some a → (d ++ l)[j]? = some b → d.length ≤ j → a.name ≠ b.name
  | [], d, _, i, j, a, b, hij, ha, hb, hd => by
    rw [List.append_nil, List.getElem?_eq_none hd] at hb; cases hb
  | o :: r, d, h, i, j, a, b, hij, ha, hb, hd => by
    simp only [dupFrom, Bool.or_eq_false_iff] at h
    by_cases hj : j = d.length
    · subst hj
      rw [List.getElem?_append_right (Nat.le_refl _)] at hb
      simp at hb
      rw [List.getElem?_append_left hij] at ha
      have := List.any_eq_false.1 h.1 a (List.mem_of_getElem? ha)
      rw [← hb]; simpa using this
    · rw [show d ++ o :: r = (d ++ [o]) ++ r from by simp] at ha hb
      exact dup_ok r (d ++ [o]) h.2 i j a b hij ha hb (by simp; omega)
/-- What a manifest that may be is. -/
structure ManiOk (m : Mani) : Prop where
  id0 : 0 ≤ m.id
  id1 : m.id ≤ 2147483647
  base : right m.base = true
  end_ : right m.end_ = true
  t0 : -1099511627776 ≤ m.time
  t1 : m.time ≤ 1099511627776
  be : m.base < m.end_
  elen : m.epochs.length ≤ 256
  eright : ∀ p ∈ m.epochs, rightP p = true
  eincr : incr m.epochs = true
  ene : m.epochs ≠ []
  ehead : ∀ p, m.epochs.head? = some p → p.2 = m.base
  elast : ∀ p, m.epochs.getLast? = some p → p.2 < m.end_
  olen0 : 1 ≤ m.objects.length
  olen1 : m.objects.length ≤ 8
  oall : ∀ o ∈ m.objects, validName o.name = true ∧ 0 ≤ o.len ∧ o.len ≤ 1073741824
  odist : ∀ (i j : Nat) (a b : Obj), i < j → m.objects[i]? = some a → m.objects[j]? = some b → a.name ≠ b.name
theorem epochErr_ok {l : List (Int × Int)} (h : epochErr l = .ok) : l.length ≤ 256 ∧ (∀ p ∈ l, rightP p = true) ∧ incr l = true := by
  unfold epochErr at h
  split at h
  · cases h
  · split at h
    · cases h
    · rename_i h1 h2
      split at h
      · rename_i h3
        exact ⟨by omega, fun p hp => by
          cases hq : rightP p with
          | true => rfl
          | false => exact absurd (List.any_eq_true.2 ⟨p, hp, by simp [hq]⟩) h2, h3⟩
      · cases h
theorem objsErr_ok {l : List Obj} (h : objsErr l = .ok) : 1 ≤ l.length ∧ l.length ≤ 8 ∧ objsBad 0 l = .ok ∧ dupFrom [] l = false := by
  unfold objsErr at h
  split at h
  · cases h
  · rename_i h1
    split at h
    · rename_i h2
      split at h
      · cases h
      · rename_i h3
        exact ⟨by omega, by omega, h2, by simpa using h3⟩
    · rename_i h2; exact absurd h h2
theorem maniOk {m : Mani} (h : maniErr m = .ok) : ManiOk m := by
  unfold maniErr at h
  split at h
  · cases h
  · rename_i h1
    split at h
    · rename_i h2
      split at h
      · cases h
      · rename_i h3
        obtain ⟨e1, e2, e3⟩ := epochErr_ok h2
        obtain ⟨o1, o2, o3, o4⟩ := objsErr_ok h
        simp only [not_or] at h1 h3
        obtain ⟨a1, a2, a3, a4, a5, a6, a7⟩ := h1
        obtain ⟨b1, b2, b3⟩ := h3
        refine ⟨by omega, by omega, by simpa using a3, by simpa using a4, by omega, by omega, by omega, e1, e2, e3, b1, fun p hp => ?_, fun p hp => ?_, o1, o2, objsBad_ok _ _ o3, fun i j a b hij ha hb => dup_ok m.objects [] o4 i j a b hij (by simpa using ha) (by simpa using hb) (Nat.zero_le _)⟩
        · rw [hp] at b2; simpa using b2
        · rw [hp] at b3; simpa using b3
    · rename_i h2; exact absurd h h2
theorem incr_at : ∀ (l : List (Int × Int)) (j : Nat) (a b : Int × Int), incr l = true → l[j]? = some a → l[j + 1]? = some b → a.1 < b.1 ∧ a.2 < b.2
  | [], _, _, _, _, h, _ => by simp at h
  | [x], j, a, b, _, _, h => by simp at h
  | x :: y :: r, 0, a, b, h, h1, h2 => by
    simp only [incr, Bool.and_eq_true, decide_eq_true_eq] at h
    simp at h1 h2
    subst h1 h2
    exact h.1
  | x :: y :: r, j + 1, a, b, h, h1, h2 => by
    simp only [incr, Bool.and_eq_true] at h
    exact incr_at (y :: r) j a b h.2 (by simpa using h1) (by simpa using h2)
end Go.Proofs.YtnkafkikjcgogaaDoor
