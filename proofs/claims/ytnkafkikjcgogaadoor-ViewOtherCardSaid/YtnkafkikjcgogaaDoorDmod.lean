/- ViewOther: the plain law. -/
import Derived.Test.YtnkafkikjcgogaaDoorCmod
import Derived.Test.YtnkafkikjcgogaaDoorSxj
namespace Go.Proofs.YtnkafkikjcgogaaDoor
open Go.Sx
theorem apply_first {m : Mani} (h : applyErr [] 1 m = .ok) : maniErr m = .ok ∧ applyV [] 1 m = [(1, m)] := by
  refine ⟨?_, by unfold applyV; rw [if_pos h]; rfl⟩
  unfold applyErr at h
  split at h
  · assumption
  · rename_i x hx; exact h
theorem apply_other {k : Int} {m c : Mani} (hne : c ≠ m) (hid : c.id = m.id) : applyErr [(1, m)] k c ≠ .ok := by
  intro h
  unfold applyErr at h
  have hl : vlook [(1, m)] c.id = some (1, m) := by simp [vlook, hid]
  rw [hl] at h
  split at h
  · split at h
    · cases h
    · split at h
      · cases h
      · simp only [] at h
        rw [if_neg (fun e => hne e.symm)] at h
        cases h
  · contradiction
theorem apply_same {k : Int} {m : Mani} (hm : maniErr m = .ok) (h0 : 2 ≤ k) (h1 : k ≤ 3) : applyErr [(1, m)] k m = .ok := by
  have hl : vlook [(1, m)] m.id = some (1, m) := by simp [vlook]
  have hs : stateOf [(1, m)] m.id = 1 := by unfold stateOf; rw [hl]; rfl
  have hk : nextOk 1 k = true := by
    rcases (show k = 2 ∨ k = 3 by omega) with rfl | rfl <;> rfl
  unfold applyErr
  rw [hm]
  simp only []
  rw [if_neg (by omega), hs, hk, hl]
  simp
theorem state_same (m : Mani) : stateOf [(1, m)] m.id = 1 := by simp [stateOf, vlook]
theorem time_ne (m : Mani) : ({ m with time := xorI .i64 m.time 1 } : Mani) ≠ m := fun h => xorI_ne .i64 m.time 1 (by decide) (congrArg Mani.time h)
theorem sum_ne {m : Mani} {ob : Obj} (h : m.objects[0]? = some ob) : ({ m with objects := m.objects.set 0 { ob with sum := xorI .u32 ob.sum 5 } } : Mani) ≠ m := fun e => by
  have h1 := congrArg (fun x : Mani => x.objects[0]?) e
  have hl : 0 < m.objects.length := (List.getElem?_eq_some_iff.1 h).1
  simp only [List.getElem?_set_self hl, h, Option.some.injEq] at h1
  exact xorI_ne .u32 ob.sum 5 (by decide) (congrArg Obj.sum h1)
theorem len_ne {m : Mani} {ob : Obj} (h : m.objects[0]? = some ob) : ({ m with objects := m.objects.set 0 { ob with len := xorI .i64 ob.len 1 } } : Mani) ≠ m := fun e => by
  have h1 := congrArg (fun x : Mani => x.objects[0]?) e
  have hl : 0 < m.objects.length := (List.getElem?_eq_some_iff.1 h).1
  simp only [List.getElem?_set_self hl, h, Option.some.injEq] at h1
  exact xorI_ne .i64 ob.len 1 (by decide) (congrArg Obj.len h1)
end Go.Proofs.YtnkafkikjcgogaaDoor
