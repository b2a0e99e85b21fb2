/- The plain laws of ViewNext. -/
import Derived.Test.YtnkafkikjcgogaaDoorLmod
import Derived.Test.YtnkafkikjcgogaaDoorSrt
namespace Go.Proofs.YtnkafkikjcgogaaDoor
open Go.Sx

theorem pair_at {α : Type} {R : α → α → Prop} {xs : List α} (h : xs.Pairwise R) {i j : Nat} {a b : α} (hij : i < j) (ha : xs[i]? = some a) (hb : xs[j]? = some b) : R a b := by
  obtain ⟨hi, rfl⟩ := List.getElem?_eq_some_iff.1 ha
  obtain ⟨hj, rfl⟩ := List.getElem?_eq_some_iff.1 hb
  exact List.pairwise_iff_getElem.1 h i j hi hj hij
theorem vlook_none {l : List (Int × Mani)} {k : Int} : vlook l k = none ↔ ∀ q ∈ l, q.2.id ≠ k := by
  induction l with
  | nil => simp [vlook]
  | cons a r ih =>
    simp only [vlook]
    split
    · rename_i h; simp [h]
    · rename_i h; rw [ih]; simp [h]
theorem vlook_some {l : List (Int × Mani)} {k : Int} {q : Int × Mani} (h : vlook l k = some q) : q ∈ l ∧ q.2.id = k := by
  induction l with
  | nil => simp [vlook] at h
  | cons a r ih =>
    simp only [vlook] at h
    split at h
    · rename_i h2; cases h; exact ⟨by simp, h2⟩
    · obtain ⟨h1, h2⟩ := ih h; exact ⟨by simp [h1], h2⟩
theorem vlook_app {l : List (Int × Mani)} {k : Int} {x : Int × Mani} (h : vlook l k = none) (hx : x.2.id = k) : vlook (l ++ [x]) k = some x := by
  induction l with
  | nil => simp [vlook, hx]
  | cons a r ih =>
    simp only [vlook] at h
    split at h
    · cases h
    · rename_i h2; simp only [List.cons_append, vlook, if_neg h2]; exact ih h
theorem vupd_app {l : List (Int × Mani)} {x : Int × Mani} (h : vlook l x.2.id = none) : vupd l x = l ++ [x] := by
  induction l with
  | nil => rfl
  | cons a r ih =>
    simp only [vlook] at h
    split at h
    · cases h
    · rename_i h2; simp only [vupd, if_neg h2, List.cons_append, ih h]
theorem vupd_last {l : List (Int × Mani)} {x y : Int × Mani} (h : vlook l x.2.id = none) (hy : y.2.id = x.2.id) : vupd (l ++ [x]) y = l ++ [y] := by
  induction l with
  | nil => simp [vupd, hy]
  | cons a r ih =>
    simp only [vlook] at h
    split at h
    · cases h
    · rename_i h2; simp only [List.cons_append, vupd, hy, if_neg h2, ih h]
theorem state_none {l : List (Int × Mani)} {k : Int} (h : vlook l k = none) : stateOf l k = 0 := by unfold stateOf; rw [h]; rfl
theorem state_some {l : List (Int × Mani)} {k : Int} {q : Int × Mani} (h : vlook l k = some q) : stateOf l k = q.1 := by unfold stateOf; rw [h]; rfl
/-- A first entry of a segment. -/
theorem apply_first {l : List (Int × Mani)} {m : Mani} (hm : maniErr m = .ok) (hl : l.length < 4096) (h : vlook l m.id = none) : applyErr l 1 m = .ok ∧ applyV l 1 m = l ++ [(1, m)] := by
  have h1 : applyErr l 1 m = .ok := by
    rw [applyErr_eq hm (by decide) (by decide), state_none h, if_neg (by decide), h]
    simp only
    rw [if_neg (by omega)]
  refine ⟨h1, ?_⟩
  unfold applyV
  rw [if_pos h1]
  exact vupd_app h
/-- A further one. -/
theorem apply_last {l : List (Int × Mani)} {k s : Int} {m : Mani} (hm : maniErr m = .ok) (h : vlook l m.id = none) (h1 : 1 ≤ k) (h2 : k ≤ 4) (hn : nextOk s k = true) :
    applyErr (l ++ [(s, m)]) k m = .ok ∧ applyV (l ++ [(s, m)]) k m = l ++ [(k, m)] := by
  have hv := vlook_app (x := (s, m)) h rfl
  have h3 : applyErr (l ++ [(s, m)]) k m = .ok := by
    rw [applyErr_eq hm h1 h2, state_some hv, if_neg (by rw [hn]; simp), hv]
    simp
  refine ⟨h3, ?_⟩
  unfold applyV
  rw [if_pos h3]
  exact vupd_last (x := (s, m)) (y := (k, m)) h rfl
/-- One that may not come. -/
theorem apply_state {l : List (Int × Mani)} {k : Int} {m : Mani} (hm : maniErr m = .ok) (h1 : 1 ≤ k) (h2 : k ≤ 4) (hn : nextOk (stateOf l m.id) k = false) : applyErr l k m = .e gState := by
  rw [applyErr_eq hm h1 h2, if_pos hn]
theorem isState : isF (.e gState) 113 = true := by decide

/-- Where the law stands: the segments, the next ID, how many. -/
structure NInv (l : List (Int × Mani)) (nx : Int) (n : Nat) : Prop where
  each : ∀ q ∈ l, (1 ≤ q.1 ∧ q.1 ≤ 4) ∧ ∃ id : Int, 0 ≤ id ∧ id < 50 ∧ q.2 = oneM id (1000 - 10 * id)
  len : l.length = n
  ids : (l.map fun q => q.2.id).Nodup
  mx : nmax l 0 = nx
  bd : 0 ≤ nx ∧ nx ≤ 50
theorem NInv.nil : NInv [] 0 0 := ⟨by simp, rfl, by simp, rfl, by decide⟩
theorem NInv.next {l : List (Int × Mani)} {nx : Int} {n : Nat} (I : NInv l nx n) : nextOf l = nx := by
  unfold nextOf; rw [I.mx, if_neg (by have := I.bd; omega)]
theorem nm_ok {id : Int} (h0 : 0 ≤ id) (h1 : id < 50) : maniErr (oneM id (1000 - 10 * id)) = .ok := oneM_ok h0 (by omega) (by omega) (by omega)
theorem nmax_app (l : List (Int × Mani)) (x : Int × Mani) (a : Int) : nmax (l ++ [x]) a = if nmax l a < x.2.id + 1 then x.2.id + 1 else nmax l a := by
  unfold nmax; rw [List.foldl_append]; rfl
theorem NInv.app {l : List (Int × Mani)} {nx : Int} {n : Nat} (I : NInv l nx n) {id k : Int} (h0 : 0 ≤ id) (h1 : id < 50) (k0 : 1 ≤ k) (k1 : k ≤ 4) (h : vlook l id = none) :
    NInv (l ++ [(k, oneM id (1000 - 10 * id))]) (if nx < id + 1 then id + 1 else nx) (n + 1) := by
  refine ⟨?_, by rw [List.length_append, I.len]; rfl, ?_, ?_, ?_⟩
  · intro q hq
    rcases List.mem_append.1 hq with hq | hq
    · exact I.each q hq
    · rw [List.mem_singleton] at hq; subst hq; exact ⟨⟨k0, k1⟩, id, h0, h1, rfl⟩
  · rw [List.map_append, List.nodup_append]
    refine ⟨I.ids, by simp, ?_⟩
    intro a ha b hb
    obtain ⟨q, hq, rfl⟩ := List.mem_map.1 ha
    simp only [List.map_cons, List.map_nil, List.mem_singleton] at hb
    subst hb
    exact vlook_none.1 h q hq
  · rw [nmax_app, I.mx]; rfl
  · have := I.bd; split <;> omega
/-- A segment that is new. -/
theorem NInv.new {l : List (Int × Mani)} {nx : Int} {n : Nat} (I : NInv l nx n) {id : Int} (h0 : 0 ≤ id) (h1 : id < 50) (h : applyErr l 1 (oneM id (1000 - 10 * id)) = .ok) : vlook l id = none := by
  cases hv : vlook l id with
  | none => rfl
  | some q =>
    exfalso
    obtain ⟨hq, hid⟩ := vlook_some hv
    have hs := (I.each q hq).1
    rw [apply_state (nm_ok h0 h1) (by decide) (by decide) (by show nextOk (stateOf l id) 1 = false; rw [state_some hv]; unfold nextOk; simp; omega)] at h
    cases h
theorem NInv.old {l : List (Int × Mani)} {nx : Int} {n : Nat} (I : NInv l nx n) (hn : n ≤ 1000) {id : Int} (h0 : 0 ≤ id) (h1 : id < 50) (h : applyErr l 1 (oneM id (1000 - 10 * id)) ≠ .ok) : isF (applyErr l 1 (oneM id (1000 - 10 * id))) 113 = true := by
  cases hv : vlook l id with
  | none => exact absurd (apply_first (nm_ok h0 h1) (by rw [I.len]; omega) hv).1 h
  | some q =>
    obtain ⟨hq, hid⟩ := vlook_some hv
    have hs := (I.each q hq).1
    rw [apply_state (nm_ok h0 h1) (by decide) (by decide) (by show nextOk (stateOf l id) 1 = false; rw [state_some hv]; unfold nextOk; simp; omega)]
    exact isState
/-- All that comes of a new segment. -/
structure NStep (l : List (Int × Mani)) (nx : Int) (n : Nat) (id : Int) : Prop where
  one : NInv (applyV l 1 (oneM id (1000 - 10 * id))) (if nx < id + 1 then id + 1 else nx) (n + 1)
  e3 : applyErr (applyV l 1 (oneM id (1000 - 10 * id))) 3 (oneM id (1000 - 10 * id)) = .ok
  e4 : applyErr (applyV (applyV l 1 (oneM id (1000 - 10 * id))) 3 (oneM id (1000 - 10 * id))) 4 (oneM id (1000 - 10 * id)) = .ok
  gone : NInv (applyV (applyV (applyV l 1 (oneM id (1000 - 10 * id))) 3 (oneM id (1000 - 10 * id))) 4 (oneM id (1000 - 10 * id))) (if nx < id + 1 then id + 1 else nx) (n + 1)
theorem NInv.step {l : List (Int × Mani)} {nx : Int} {n : Nat} (I : NInv l nx n) (hn : n ≤ 1000) {id : Int} (h0 : 0 ≤ id) (h1 : id < 50) (h : applyErr l 1 (oneM id (1000 - 10 * id)) = .ok) : NStep l nx n id := by
  have hv := I.new h0 h1 h
  have hm := nm_ok h0 h1
  have a1 := (apply_first hm (by rw [I.len]; omega) hv).2
  obtain ⟨b1, b2⟩ := apply_last (k := 3) (s := 1) hm hv (by decide) (by decide) (by decide)
  obtain ⟨c1, c2⟩ := apply_last (k := 4) (s := 3) hm hv (by decide) (by decide) (by decide)
  refine ⟨?_, ?_, ?_, ?_⟩
  · rw [a1]; exact I.app h0 h1 (by decide) (by decide) hv
  · rw [a1]; exact b1
  · rw [a1, b2]; exact c1
  · rw [a1, b2, c2]; exact I.app h0 h1 (by decide) (by decide) hv
theorem NInv.same {l : List (Int × Mani)} {k : Int} {m : Mani} (h : applyErr l k m ≠ .ok) : applyV l k m = l := by unfold applyV; rw [if_neg h]
/-- What is listed. -/
theorem NInv.sorted {l : List (Int × Mani)} {nx : Int} {n : Nat} (I : NInv l nx n) {zs : List MC} (hp : (zs.map MC.m).Perm ((l.filter fun q => ([1, 2, 3, 4] : List Int).any fun y => decide (q.1 = y)).map (·.2))) (hs : zs.Pairwise fun x y => ¬ ahead y.m x.m) :
    zs.length = n ∧ zs.Pairwise fun x y => x.m.base < y.m.base ∧ y.m.id < x.m.id := by
  have hf : (l.filter fun q => ([1, 2, 3, 4] : List Int).any fun y => decide (q.1 = y)) = l := by
    rw [List.filter_eq_self]
    intro q hq
    have := (I.each q hq).1
    simp; omega
  rw [hf] at hp
  refine ⟨by have := hp.length_eq; simpa [I.len] using this, ?_⟩
  have hnd : (zs.map fun x => x.m.id).Nodup := by
    have h1 := hp.map (·.id)
    rw [List.map_map, List.map_map] at h1
    exact h1.nodup_iff.2 I.ids
  have hall : ∀ x ∈ zs, ∃ id : Int, 0 ≤ id ∧ id < 50 ∧ x.m = oneM id (1000 - 10 * id) := fun x hx => by
    have : x.m ∈ l.map (·.2) := hp.mem_iff.1 (List.mem_map.2 ⟨x, hx, rfl⟩)
    obtain ⟨q, hq, hqx⟩ := List.mem_map.1 this
    obtain ⟨id, a, b, c⟩ := (I.each q hq).2
    exact ⟨id, a, b, by rw [← hqx, c]⟩
  unfold List.Nodup at hnd
  rw [List.pairwise_map] at hnd
  refine List.Pairwise.imp_of_mem ?_ (hs.and hnd)
  intro x y hx hy h
  obtain ⟨h1, h2⟩ := h
  obtain ⟨a, a0, a1, a2⟩ := hall x hx
  obtain ⟨b, b0, b1, b2⟩ := hall y hy
  rw [a2, b2] at h1 h2 ⊢
  unfold ahead oneM at h1
  simp only [oneM] at h2 ⊢
  simp only at h1
  omega
theorem NInv.none {l : List (Int × Mani)} {zs : List MC} (hp : (zs.map MC.m).Perm ((l.filter fun q => ([] : List Int).any fun y => decide (q.1 = y)).map (·.2))) : zs.length = 0 := by
  have := hp.length_eq
  rw [show (l.filter fun q => ([] : List Int).any fun y => decide (q.1 = y)) = [] from by simp] at this
  simpa using this
end Go.Proofs.YtnkafkikjcgogaaDoor
