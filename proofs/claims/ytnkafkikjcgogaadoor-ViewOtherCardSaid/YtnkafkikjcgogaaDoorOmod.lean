/- The statements' own manifests. -/
import Derived.Test.YtnkafkikjcgogaaDoorRmod
namespace Go.Proofs.YtnkafkikjcgogaaDoor
open Go.Sx
def bData : ByteArray := ⟨#[100, 97, 116, 97]⟩
def bMarks : ByteArray := ⟨#[109, 97, 114, 107, 115]⟩
/-- A manifest of objects without bytes. -/
abbrev mk0 (id base e t : Int) (ps : List (Int × Int)) : Mani := ⟨id, base, e, t, ps, [⟨objName id bData base, 0, 0⟩, ⟨objName id bMarks base, 0, 0⟩]⟩
def oneM (id base : Int) : Mani := mk0 id base (base + 5) 0 [(1, base)]
theorem all_app {a b : ByteArray} {p : UInt8 → Bool} (ha : a.data.toList.all p = true) (hb : b.data.toList.all p = true) : (a ++ b).data.toList.all p = true := by
  rw [ByteArray.data_append, Array.toList_append, List.all_append, ha, hb]; rfl
theorem chr_ok (d : Int) : (chrOf d).data.toList.all okc = true := by
  unfold chrOf
  rw [ByteArray.data_extract, Array.toList_extract, List.all_eq_true]
  intro c hc
  have hc : c ∈ tenD.data.toList := by
    unfold List.extract at hc
    exact List.mem_of_mem_drop (List.mem_of_mem_take hc)
  have h10 : ∀ c ∈ tenD.data.toList, okc c = true := by decide
  exact h10 c hc
theorem digs_ok : ∀ (k : Nat) (n : Int) (t : ByteArray), t.data.toList.all okc = true → (digs k n t).data.toList.all okc = true
  | 0, _, _, h => h
  | k + 1, n, _, h => digs_ok k (n.tdiv 10) _ (all_app (chr_ok _) h)
theorem name_ok (id : Int) (kind : ByteArray) (base : Int) (hk : kind.data.toList.all okc = true) (hs : kind.size ≤ 8) : validName (objName id kind base) = true := by
  have h1 := digs_size 10 id nul
  have h2 := digs_size 13 base nul
  have e0 : nul.size = 0 := rfl
  have hz : (objName id kind base).size = 4 + (digs 10 id nul).size + 1 + kind.size + 1 + (digs 13 base nul).size := by
    unfold objName
    simp only [ByteArray.size_append]
    rfl
  have ha : (objName id kind base).data.toList.all okc = true := by
    unfold objName
    refine all_app (all_app (all_app (all_app (all_app (by decide) (digs_ok _ _ _ (by decide))) (by decide)) hk) (by decide)) (digs_ok _ _ _ (by decide))
  unfold validName
  rw [ha]
  simp only [Bool.and_true, Bool.and_eq_true, decide_eq_true_eq]
  omega
theorem name_ne (id base : Int) : objName id bData base ≠ objName id bMarks base := fun h => by
  have := congrArg ByteArray.size h
  unfold objName at this
  simp only [ByteArray.size_append] at this
  have e1 : bData.size = 4 := rfl
  have e2 : bMarks.size = 5 := rfl
  omega
theorem dn_ok (id base : Int) : validName (objName id bData base) = true := name_ok id bData base (by decide) (by decide)
theorem mn_ok (id base : Int) : validName (objName id bMarks base) = true := name_ok id bMarks base (by decide) (by decide)
theorem objs_ok (id base : Int) : objsErr [⟨objName id bData base, 0, 0⟩, ⟨objName id bMarks base, 0, 0⟩] = .ok := by
  unfold objsErr
  rw [if_neg (by simp)]
  have h1 : objsBad 0 [⟨objName id bData base, 0, 0⟩, ⟨objName id bMarks base, 0, 0⟩] = .ok := by
    simp [objsBad, dn_ok, mn_ok]
  rw [h1]
  have h2 : dupFrom [] [(⟨objName id bData base, 0, 0⟩ : Obj), ⟨objName id bMarks base, 0, 0⟩] = false := by
    simp [dupFrom, name_ne]
  simp [h2]
theorem oneM_ok {id base : Int} (h0 : 0 ≤ id) (h1 : id ≤ 2147483647) (h2 : 0 ≤ base) (h3 : base + 5 ≤ 1099511627776) : maniErr (oneM id base) = .ok := by
  unfold maniErr
  have r1 : right base = true := by unfold right; simp; omega
  have r2 : right (base + 5) = true := by unfold right; simp; omega
  show (if id < 0 ∨ 2147483647 < id ∨ right base = false ∨ right (base + 5) = false ∨ (0 : Int) < -1099511627776 ∨ (1099511627776 : Int) < 0 ∨ base + 5 ≤ base then _ else _) = _
  rw [if_neg (by rw [r1, r2]; simp; omega)]
  have he : epochErr [((1 : Int), base)] = .ok := by
    unfold epochErr
    have : rightP (1, base) = true := by unfold rightP; simp; omega
    simp [this, incr]
  have he2 : epochErr (oneM id base).epochs = .ok := he
  rw [he2]
  dsimp only
  rw [if_neg (by simp [oneM]; omega)]
  exact objs_ok id base
end Go.Proofs.YtnkafkikjcgogaaDoor
