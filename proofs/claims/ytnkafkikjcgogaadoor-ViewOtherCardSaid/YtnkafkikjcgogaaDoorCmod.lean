/- Views as bytes. -/
import Derived.Test.YtnkafkikjcgogaaDoorBmod
import Derived.Test.YtnkafkikjcgogaaDoorRmod
import Derived.Test.YtnkafkikjcgogaaDoorKeys
namespace Go.Proofs.YtnkafkikjcgogaaDoor
open Go.Sx
theorem valid_size {s : ByteArray} (h : validName s = true) : s.size ≤ 64 := by
  unfold validName at h
  simp only [Bool.and_eq_true, decide_eq_true_eq] at h
  omega
def stB (k : Int) : UInt8 := ⟨BitVec.ofInt 8 k⟩
/-- A segment's bytes. -/
def segB (l : List (Int × Mani)) (id : Int) : List UInt8 := match vlook l id with
  | some q => [stB q.1] ++ nB (maniB q.2).length ++ maniB q.2
  | none => []
def vbody (l : List (Int × Mani)) (ids : List Int) : List UInt8 := nB l.length ++ ids.flatMap (segB l)
/-- A view's bytes. -/
def viewB (l : List (Int × Mani)) : List UInt8 := sealM (vbody l (sortI (l.map fun q => q.2.id)))
theorem all2_keys {M : Nat → Prop} {w : World} : ∀ {L : List (Int × Value)} {l : List (Int × Mani)}, All2 (RV M w) L l → L.map (·.1) = l.map fun q => q.2.id
  | [], [], _ => rfl
  | _ :: _, _ :: _, h => by rw [List.map_cons, List.map_cons, all2_keys h.2, h.1.1]
  | [], _ :: _, h => h.elim
  | _ :: _, [], h => h.elim
theorem vfound {M : Nat → Prop} {w : World} {L : List (Int × Value)} {l : List (Int × Mani)} {k : Int} (h : All2 (RV M w) L l) (hk : k ∈ l.map fun q => q.2.id) :
    ∃ q cs, vlook l k = some q ∧ q ∈ l ∧ asc L k = some (.agg (List.toArray (.int .i64 q.1 :: cs))) ∧ At M w (Mrd q.2 cs) := by
  rcases vasc k h with ⟨h1, _⟩ | ⟨q, cs, h1, h2, h3⟩
  · exfalso
    obtain ⟨q, hq, rfl⟩ := List.mem_map.1 hk
    clear h hk
    induction l with
    | nil => simp at hq
    | cons a r ih =>
      simp only [vlook] at h1
      split at h1
      · cases h1
      · rename_i hne
        rcases List.mem_cons.1 hq with rfl | hq
        · exact hne rfl
        · exact ih hq h1
  · refine ⟨q, cs, h1, ?_, h2, h3⟩
    clear h hk h2 h3
    induction l with
    | nil => simp [vlook] at h1
    | cons a r ih =>
      simp only [vlook] at h1
      split at h1
      · cases h1; simp
      · exact List.mem_cons_of_mem _ (ih h1)
theorem seg_some {l : List (Int × Mani)} {k : Int} {q : Int × Mani} (h : vlook l k = some q) : segB l k = [stB q.1] ++ nB (maniB q.2).length ++ maniB q.2 := by unfold segB; rw [h]
end Go.Proofs.YtnkafkikjcgogaaDoor
