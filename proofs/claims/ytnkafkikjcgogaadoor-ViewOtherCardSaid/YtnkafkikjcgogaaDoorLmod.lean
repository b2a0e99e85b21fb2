/- Views, as the laws ask them. -/
import Derived.Test.YtnkafkikjcgogaaDoorOmod
import Derived.Test.YtnkafkikjcgogaaDoorVw5
namespace Go.Proofs.YtnkafkikjcgogaaDoor
open Go.Sx
/-- Is it just this error? -/
def isF (e : Er) (c : Int) : Bool := decide (fc e = c) && decide (fp e = false) && decide (fo e = 0)
theorem epochErr_small (l : List (Int × Int)) : (epochErr l).small := by
  unfold epochErr
  repeat' split
  all_goals first | trivial | (show (_ : Nat) < 19; decide)
theorem objsBad_small : ∀ (l : List Obj) (i : Int), (objsBad i l).small
  | [], _ => trivial
  | o :: r, i => by
    simp only [objsBad]
    split
    · split
      · show (_ : Nat) < 19; decide
      · exact objsBad_small r _
    · show (_ : Nat) < 19; decide
theorem objsErr_small (l : List Obj) : (objsErr l).small := by
  unfold objsErr
  have h := objsBad_small l 0
  split
  · show (_ : Nat) < 19; decide
  · split
    · split
      · show (_ : Nat) < 19; decide
      · trivial
    · exact h
theorem maniErr_small (m : Mani) : (maniErr m).small := by
  unfold maniErr
  have h := epochErr_small m.epochs
  split
  · show (_ : Nat) < 19; decide
  · split
    · split
      · show (_ : Nat) < 19; decide
      · exact objsErr_small _
    · exact h
theorem applyErr_small (l : List (Int × Mani)) (k : Int) (m : Mani) : (applyErr l k m).small := by
  unfold applyErr
  have h := maniErr_small m
  split
  · repeat' split
    all_goals first | trivial | (show (_ : Nat) < 19; decide)
  · exact h
theorem applyErr_eq {l : List (Int × Mani)} {k : Int} {m : Mani} (hm : maniErr m = .ok) (h1 : 1 ≤ k) (h2 : k ≤ 4) : applyErr l k m = if nextOk (stateOf l m.id) k = false then .e gState else
    match vlook l m.id with
    | none => if 4096 ≤ l.length then .e gMany else .ok
    | some q => if q.2 = m then .ok else .e gShape := by
  unfold applyErr
  rw [hm]
  dsimp only
  rw [if_neg (by omega)]
  rfl
theorem one00 : maniErr (oneM 0 0) = .ok := oneM_ok (by decide) (by decide) (by decide) (by decide)
theorem first1 : applyErr [] 1 (oneM 0 0) = .ok := by
  rw [applyErr_eq one00 (by decide) (by decide)]; rfl
theorem first2 : isF (applyErr (applyV [] 1 (oneM 0 0)) 1 (oneM 0 0)) 113 = true := by
  rw [applyErr_eq one00 (by decide) (by decide)]
  unfold applyV
  rw [if_pos first1]
  have : nextOk (stateOf (vupd [] (1, oneM 0 0)) (oneM 0 0).id) 1 = false := by decide
  rw [if_pos this]
  decide
end Go.Proofs.YtnkafkikjcgogaaDoor
