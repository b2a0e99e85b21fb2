/- Maps with whole numbers as keys, interface values that are compared, type assertions. No program in sight. -/
import Derived.Test.YtnkafkikjcgogaaDoorSxe
import Derived.MapKept
import Derived.Laws.IdiomRangeMap
import Derived.LaidEqlPtr
set_option linter.unusedVariables false
set_option linter.unusedSimpArgs false
namespace Go.Sx
open Go.RowKit Go.MapKept

/-! ### Lists of pairs -/
def asc : List (Int × Value) → Int → Option Value
  | [], _ => none
  | p :: r, k => if p.1 = k then some p.2 else asc r k
def upd : List (Int × Value) → Int → Value → List (Int × Value)
  | [], k, v => [(k, v)]
  | p :: r, k, v => if p.1 = k then (k, v) :: r else p :: upd r k v
def keyI : Value → Int | .int _ k => k | _ => 0
/-- An entry, as a pair. -/
def dec (e : MapEntry) : Int × Value := (keyI e.key, e.val)
/-- The map object b holds these pairs. -/
structure MapIs (es : Array MapEntry) (clk : Nat) (l : List (Int × Value)) : Prop where
  st : Stamped es clk
  key : ∀ e ∈ es.toList, e.key = .int .i64 (dec e).1
  val : es.toList.map dec = l
def MapB (b : Nat) (l : List (Int × Value)) (w : World) : Prop := ∃ es clk, w.heap[b]? = some (.map es clk) ∧ MapIs es clk l
theorem MapB.lt {b : Nat} {l : List (Int × Value)} {w : World} (h : MapB b l w) : b < w.heap.size := by
  obtain ⟨es, clk, h, _⟩ := h
  exact (Array.getElem?_eq_some_iff.1 h).1
theorem MapB.on {b : Nat} {l : List (Int × Value)} {X : Nat → Prop} {w w' : World} (h : MapB b l w) (e : Evo X w w') (hX : ¬ X b) : MapB b l w' := by
  have hlt := h.lt
  obtain ⟨es, clk, h, k⟩ := h
  exact ⟨es, clk, (e.block b hlt hX).trans h, k⟩
theorem MapB.no {b : Nat} {l : List (Int × Value)} {w w' : World} (h : MapB b l w) (e : Evo No w w') : MapB b l w' := h.on e id
theorem MapB.nodup {b : Nat} {l : List (Int × Value)} {w : World} (h : MapB b l w) : (l.map (·.1)).Nodup := by
  obtain ⟨es, clk, _, h⟩ := h
  have h3 := h.st.2.2
  rw [← h.val, List.map_map]
  have : es.toList.map (·.key) = (es.toList.map ((·.1) ∘ dec)).map (fun k => Value.int .i64 k) := by
    rw [List.map_map]
    exact List.map_congr_left fun e he => h.key e he
  rw [this] at h3
  unfold List.Nodup at h3 ⊢
  rw [List.pairwise_map] at h3
  exact h3.imp fun hh e => hh (by rw [e])

theorem find_int (k : Int) : ∀ (es : List MapEntry) (i : Nat), (∀ e ∈ es, e.key = .int .i64 (dec e).1) →
    (Instr.findNow (.int .i64) (.int .i64 k) es i = some none ∧ asc (es.map dec) k = none ∧ (∀ v, upd (es.map dec) k v = es.map dec ++ [(k, v)]) ∧ ∀ e ∈ es, e.key ≠ .int .i64 k) ∨
    ∃ m e, Instr.findNow (.int .i64) (.int .i64 k) es i = some (some (i + m, e.val)) ∧ es[m]? = some e ∧ e.key = .int .i64 k ∧ asc (es.map dec) k = some e.val ∧
      ∀ v : Value, (es.modify m fun e => { e with key := .int .i64 k, val := v }).map dec = upd (es.map dec) k v
  | [], _, _ => .inl ⟨rfl, rfl, fun _ => rfl, by simp⟩
  | e :: es, i, h => by
    have he := h e (by simp)
    by_cases hk : (dec e).1 = k
    · refine .inr ⟨0, e, ?_, rfl, hk ▸ he, ?_, fun v => ?_⟩
      · rw [hk] at he
        simp [Instr.findNow, he, Instr.sameNow]
      · simp only [List.map_cons, asc, if_pos hk]; rfl
      · simp only [List.map_cons, upd, if_pos hk, List.modify_zero_cons]; rfl
    · have hne : (k == (dec e).1) = false := by simpa using fun q => hk q.symm
      have hs : Instr.sameNow (.int .i64) (.int .i64 k) e.key = some false := by rw [he]; simp [Instr.sameNow]; exact fun q => hk q.symm
      rcases find_int k es (i + 1) (fun x hx => h x (by simp [hx])) with ⟨h1, h2, h3, h4⟩ | ⟨m, e', h1, h2, h3, h4, h5⟩
      · refine .inl ⟨by simp [Instr.findNow, hs, h1], by simp [asc, hk, h2], fun v => by simp [upd, hk, h3], fun x hx => ?_⟩
        rcases List.mem_cons.1 hx with rfl | hx
        · rw [he]; simpa using hk
        · exact h4 x hx
      · refine .inr ⟨m + 1, e', by simp [Instr.findNow, hs, h1]; omega, by simpa using h2, h3, by simp [asc, hk, h4], fun v => ?_⟩
        simp only [List.map_cons, upd, if_neg hk, ← h5 v]
        rfl

theorem isK64 {k : Int} : IsKey (.int .i64) (.int .i64 k) := rfl
/-- A map type with whole numbers as keys. -/
def mapB (P : Program) (t : TypeId) : Option (TypeId × TypeId) := match P.underlying t with
  | some (.map k e) => match P.underlying k with | some (.int .i64) => some (k, e) | _ => none
  | _ => none
theorem mapB_spec {P : Program} {t k e : TypeId} (h : mapB P t = some (k, e)) : P.underlying t = some (.map k e) ∧ P.underlying k = some (.int .i64) := by
  unfold mapB at h
  cases hu : P.underlying t with
  | none => simp [hu] at h
  | some d =>
    cases d <;> simp [hu] at h
    rename_i a b
    cases hk : P.underlying a with
    | none => simp [hk] at h
    | some d2 =>
      cases d2 <;> simp [hk] at h
      rename_i ik
      cases ik <;> simp at h
      obtain ⟨rfl, rfl⟩ := h
      exact ⟨rfl, hk⟩
theorem run_lookup_int {P : Program} {w : World} {t k e b : Nat} {l : List (Int × Value)} {key : Int} {z : Value} (hT : mapB P t = some (k, e)) (hb : MapB b l w) (hz : ∀ w, (zeroValue e).run P w = .ok z w) (ok : Bool) :
    (Instr.lookup t (.map (some b)) (.int .i64 key) ok).run P w = .ok (if ok then .tuple #[(asc l key).getD z, .bool (asc l key).isSome] else (asc l key).getD z) w := by
  obtain ⟨ht, hk⟩ := mapB_spec hT
  obtain ⟨es, clk, hb, hm⟩ := hb
  rcases find_int key es.toList 0 hm.key with ⟨h1, h2, _, _⟩ | ⟨m, e', h1, h2, h3, h4, _⟩
  · rw [hm.val] at h2
    simp [Instr.lookup, run_underlying ht, Go.MapKept.run_getObj_map hb, Go.MapKept.run_checkKey (d := .int .i64) hk isK64, Go.MapKept.run_findKey hk h1, hz, Result.andThen, h2]
  · rw [hm.val] at h4
    simp [Instr.lookup, run_underlying ht, Go.MapKept.run_getObj_map hb, Go.MapKept.run_checkKey (d := .int .i64) hk isK64, Go.MapKept.run_findKey hk h1, Result.andThen, h4]
theorem run_update_int {P : Program} {w : World} {t k e b : Nat} {l : List (Int × Value)} {key : Int} {v : Value} (hT : mapB P t = some (k, e)) (hb : MapB b l w) :
    ∃ w1, (Instr.mapUpdate t (.map (some b)) (.int .i64 key) v).run P w = .ok () w1 ∧ Evo (· = b) w w1 ∧ MapB b (upd l key v) w1 := by
  obtain ⟨ht, hk⟩ := mapB_spec hT
  obtain ⟨es, clk, hb, hm⟩ := hb
  have evo : ∀ o : Obj, Evo (· = b) w { w with heap := w.heap.setIfInBounds b o } := fun o => ⟨rfl, rfl, rfl, by simp, Nat.le_refl _, fun r _ hr => (heap_set hb).2 r hr⟩
  rcases find_int key es.toList 0 hm.key with ⟨h1, h2, h3, h4⟩ | ⟨m, e', h1, h2, h3, h4, h5⟩
  · refine ⟨_, by simp [Instr.mapUpdate, run_underlying ht, Go.MapKept.run_getObj_map hb, Go.MapKept.run_checkKey (d := .int .i64) hk isK64, Go.MapKept.run_findKey hk h1, Go.MapKept.run_setObj_map _ hb, Result.andThen]; rfl, evo _, _, _, (heap_set hb).1, ?_⟩
    refine ⟨stamped_push hm.st h4, fun e he => ?_, ?_⟩
    · simp only [Array.toList_push, List.mem_append, List.mem_singleton] at he
      rcases he with he | rfl
      · exact hm.key e he
      · rfl
    · rw [Array.toList_push, List.map_append, ← hm.val, h3]; rfl
  · have hj : es[m]? = some e' := by simpa using h2
    refine ⟨_, by simp [Instr.mapUpdate, run_underlying ht, Go.MapKept.run_getObj_map hb, Go.MapKept.run_checkKey (d := .int .i64) hk isK64, Go.MapKept.run_findKey hk h1, hj, h3, run_keyThatStays (d := .int .i64) (k := .int .i64 key) isK64, Go.MapKept.run_setObj_map _ hb, Result.andThen]; rfl, evo _, _, _, (heap_set hb).1, ?_⟩
    have hl : (es.modify m fun e => ({ e with key := Value.int .i64 key, val := v } : MapEntry)).toList = es.toList.modify m fun e => { e with key := .int .i64 key, val := v } := by simp
    refine ⟨stamped_modify hm.st _ _ (fun _ _ => rfl) fun e _ he => ?_, fun e he => ?_, ?_⟩
    · rw [hj] at he; cases he; exact h3.symm
    · rw [hl] at he
      obtain ⟨i, hi⟩ := List.mem_iff_getElem?.1 he
      rw [List.getElem?_modify] at hi
      cases hc : es.toList[i]? with
      | none => simp [hc] at hi
      | some x =>
        rw [hc] at hi
        by_cases hmi : m = i
        · simp [hmi] at hi; subst hi; rfl
        · simp [hmi] at hi; subst hi; exact hm.key _ (List.mem_of_getElem? hc)
    · rw [hl, h5 v, hm.val]

/-! ### Iterators -/
/-- Block bi is an iterator over the map in block bm, which holds l; left is still to come; cur came last. -/
def ItB (bi bm : Nat) (l left : List (Int × Value)) (cur : Option (Int × Value)) (w : World) : Prop :=
  ∃ es clk seen, w.heap[bm]? = some (.map es clk) ∧ MapIs es clk l ∧ w.heap[bi]? = some (.mapIter (some bm) clk seen clk) ∧ left = (leftOf es seen).toList.map dec ∧
    ∀ p, cur = some p → ∃ e ∈ es.toList, seen.back? = some e.born ∧ dec e = p
theorem ItB.lt {bi bm : Nat} {l left : List (Int × Value)} {cur : Option (Int × Value)} {w : World} (h : ItB bi bm l left cur w) : bi < w.heap.size := by
  obtain ⟨es, clk, seen, _, _, h, _⟩ := h
  exact (Array.getElem?_eq_some_iff.1 h).1
theorem ItB.map {bi bm : Nat} {l left : List (Int × Value)} {cur : Option (Int × Value)} {w : World} (h : ItB bi bm l left cur w) : MapB bm l w := by
  obtain ⟨es, clk, seen, h1, h2, _, _⟩ := h
  exact ⟨es, clk, h1, h2⟩
theorem ItB.on {bi bm : Nat} {l left : List (Int × Value)} {cur : Option (Int × Value)} {X : Nat → Prop} {w w' : World} (h : ItB bi bm l left cur w) (e : Evo X w w') (h1 : ¬ X bi) (h2 : ¬ X bm) : ItB bi bm l left cur w' := by
  have l1 := h.lt
  have l2 := h.map.lt
  obtain ⟨es, clk, seen, a, b, c, d⟩ := h
  exact ⟨es, clk, seen, (e.block bm l2 h2).trans a, b, (e.block bi l1 h1).trans c, d⟩
theorem ItB.no {bi bm : Nat} {l left : List (Int × Value)} {cur : Option (Int × Value)} {w w' : World} (h : ItB bi bm l left cur w) (e : Evo No w w') : ItB bi bm l left cur w' := h.on e id id
theorem ItB.mem {bi bm : Nat} {l left : List (Int × Value)} {cur : Option (Int × Value)} {w : World} (h : ItB bi bm l left cur w) : ∀ p ∈ left, p ∈ l := by
  obtain ⟨es, clk, seen, _, b, _, d, _⟩ := h
  intro p hp
  rw [d] at hp
  obtain ⟨e, he, rfl⟩ := List.mem_map.1 hp
  rw [← b.val]
  exact List.mem_map.2 ⟨e, (mem_left he).1, rfl⟩
theorem perm_born (e : MapEntry) : ∀ (l : List MapEntry), (l.map (·.born)).Nodup → e ∈ l → l.Perm (e :: l.filter fun x => !(x.born == e.born))
  | x :: l, hn, he => by
    have hn' := List.nodup_cons.1 hn
    by_cases hx : x.born = e.born
    · have hxe : x = e := born_inj hn (by simp) he hx
      subst hxe
      have : (x :: l).filter (fun y => !(y.born == x.born)) = l := by
        rw [List.filter_cons]
        simp only [beq_self_eq_true, Bool.not_true, Bool.false_eq_true, if_false]
        rw [List.filter_eq_self]
        intro y hy
        have : y.born ≠ x.born := fun q => hn'.1 (List.mem_map.2 ⟨y, hy, q⟩)
        simpa using this
      rw [this]
    · have he' : e ∈ l := by
        rcases List.mem_cons.1 he with rfl | h
        · exact absurd rfl hx
        · exact h
      have ih := perm_born e l hn'.2 he'
      have : (x :: l).filter (fun y => !(y.born == e.born)) = x :: l.filter (fun y => !(y.born == e.born)) := by
        rw [List.filter_cons]; simp [hx]
      rw [this]
      exact (ih.cons x).trans (List.Perm.swap e x _)
theorem left_push (es : Array MapEntry) (seen : Array Nat) (b : Nat) : (leftOf es (seen.push b)).toList = (leftOf es seen).toList.filter fun x => !(x.born == b) := by
  unfold leftOf
  rw [Array.toList_filter, Array.toList_filter, List.filter_filter]
  apply List.filter_congr
  intro x _
  rw [contains_push]
  cases seen.contains x.born <;> cases (x.born == b) <;> rfl

theorem run_next_it {P : Program} (w : World) (ty : TypeId) {bi bm : Nat} {l left : List (Int × Value)} {cur : Option (Int × Value)} (h : ItB bi bm l left cur w) :
    (left = [] ∧ (Instr.next (.pointer (some ⟨bi, 0, none⟩)) false ty).run P w = .ok (.tuple #[.bool false]) w) ∨
    ∃ p left' w1, left.Perm (p :: left') ∧ Evo (· = bi) w w1 ∧ ItB bi bm l left' (some p) w1 ∧ (Instr.next (.pointer (some ⟨bi, 0, none⟩)) false ty).run P w = .ok (.tuple #[.bool true, .int .i64 p.1, p.2]) w1 := by
  have hlt := h.lt
  have hmlt := h.map.lt
  obtain ⟨es, clk, seen, hm, hM, hi, hl, hc⟩ := h
  have hold : ∀ x ∈ es.toList, x.born < clk := hM.st.1
  have hne : bm ≠ bi := by rintro rfl; rw [hm] at hi; cases hi
  simp only [Instr.next, getObj, Sem.run_bind, Sem.run, hi, hm, Result.andThen, next_test_false seen es clk clk hold (Nat.le_refl _), Bool.false_eq_true, if_false]
  have hmem : ∀ x ∈ (leftOf es seen).toList, x.born < clk := fun x hx => hold x (mem_left hx).1
  have hnd : ((leftOf es seen).toList.map (·.born)).Nodup := by
    have hsub : (leftOf es seen).toList.Sublist es.toList := by unfold leftOf; rw [Array.toList_filter]; exact List.filter_sublist
    exact (hsub.map _).nodup hM.st.2.1
  have hpush := left_push es seen
  have hin : ∀ x ∈ (leftOf es seen).toList, x ∈ es.toList := fun x hx => (mem_left hx).1
  unfold leftOf at hmem hnd hpush hl hin
  generalize Array.filter (fun e => !seen.contains e.born) es = L at *
  have e1 : L.filter (fun x => decide (x.born < clk)) = L := Array.filter_eq_self.2 (fun x hx => by simpa using hmem x (by simpa using hx))
  have e2 : L.filter (fun x => decide (x.born ≥ clk)) = #[] := by
    rw [Array.filter_eq_empty_iff]
    intro x hx
    have := hmem x (by simpa using hx)
    simp
    omega
  simp only [e1, e2, Array.append_empty]
  by_cases h0 : L.size = 0
  · left
    have : L = #[] := Array.eq_empty_of_size_eq_zero h0
    subst this
    refine ⟨by simpa using hl, ?_⟩
    simp [choose, Sem.run, Question.forced]
  · right
    have hne2 : L.isEmpty = false := by simp [Array.isEmpty, h0]
    simp only [hne2, Bool.false_eq_true, if_false, Array.empty_append, Array.size_map]
    have hch : ∃ (j : Nat) (w1 : World), j < L.size ∧ Evo No w w1 ∧ w1.heap = w.heap ∧ (choose (Question.mapNext L.size)).run P w = .ok j w1 := by
      by_cases hf : L.size ≤ 1
      · exact ⟨0, w, by omega, Evo.refl _ _, rfl, by simp [choose, Sem.run, Question.forced, hf]⟩
      · exact ⟨_, w.drew, Nat.mod_lt _ (by omega), (Evo.refl No w).drew, rfl, by
          simp only [choose, Sem.run, Question.forced, decide_eq_true_eq, hf, if_false, Question.cut]
          rfl⟩
    obtain ⟨j, w1, hj, hev, hheap, hrun⟩ := hch
    have hk := hM.key L[j] (hin _ (by simp))
    refine ⟨dec L[j], (L.toList.filter fun x => !(x.born == L[j].born)).map dec, { w1 with heap := w1.heap.setIfInBounds bi (.mapIter (some bm) clk (seen.push L[j].born) clk) }, ?_, ?_, ?_, ?_⟩
    · rw [hl]
      exact (perm_born L[j] L.toList hnd (by simp)).map dec
    · refine ⟨hev.os, hev.tape, hev.output, by simpa using hev.size, hev.drawn, fun b hb hne => ?_⟩
      show (w1.heap.setIfInBounds bi _)[b]? = _
      rw [hheap]
      simp [Ne.symm hne]
    · refine ⟨es, clk, seen.push L[j].born, ?_, hM, ?_, ?_, fun p hp => ⟨L[j], hin _ (by simp), by simp, by simpa using hp⟩⟩
      · show (w1.heap.setIfInBounds bi _)[bm]? = _
        rw [hheap]
        simp [Ne.symm hne, hm]
      · show (w1.heap.setIfInBounds bi _)[bi]? = _
        rw [hheap]
        simp [hlt]
      · unfold leftOf; rw [hpush]
    · simp only [hrun, Array.getElem?_map, Array.getElem?_eq_getElem hj, Option.map_some, Sem.run_bind, setObj, Sem.run, hheap, hi, Result.andThen]
      rw [← hk]
      rfl
theorem run_entry_it {P : Program} (w : World) {bi bm : Nat} {l left : List (Int × Value)} {p : Int × Value} (h : ItB bi bm l left (some p) w) :
    (Instr.entry (.pointer (some ⟨bi, 0, none⟩))).run P w = .ok (.tuple #[.int .i64 p.1, p.2]) w := by
  obtain ⟨es, clk, seen, hm, hM, hi, hl, hc⟩ := h
  obtain ⟨e, he, hs, rfl⟩ := hc p rfl
  have hf : es.find? (·.born == e.born) = some e := by rw [← Array.find?_toList]; exact find_born e es.toList hM.st.2.1 he
  simp only [Instr.entry, getObj, Sem.run_bind, Sem.run, hi, hm, Result.andThen, hs, bne_self_eq_false, Bool.false_eq_true, if_false, hf]
  rw [← hM.key e he]
  rfl
theorem run_range_it {P : Program} (w : World) {t k e bm : Nat} {l : List (Int × Value)} (hT : mapB P t = some (k, e)) (h : MapB bm l w) :
    ∃ w1, (Instr.range t (.map (some bm))).run P w = .ok (.pointer (some ⟨w.heap.size, 0, none⟩)) w1 ∧ Evo No w w1 ∧ ItB w.heap.size bm l l none w1 := by
  have hlt := h.lt
  obtain ⟨es, clk, hb, hM⟩ := h
  refine ⟨_, run_range_map w t k e bm es clk (mapB_spec hT).1 hb, Evo.alloc w _, es, clk, #[], ?_, hM, heap_alloc_new w _, ?_, by simp⟩
  · rw [heap_alloc_old w _ hlt, hb]
  · unfold leftOf
    have : (List.filter (fun _ => true) es.toList) = es.toList := List.filter_eq_self.2 fun _ _ => rfl
    simp [← hM.val, this]

section
variable {P : Program} {ops : Array Oper} {S : World → Prop} {n : Nat} {K : Env → World → Prop} {F : Env} {w : World} {r : Tr}
variable {d : Option Tmp} {ty : TypeId} {pos : String} {af : Array Edge} {g : Option (Nat × Bool)}

theorem l_makeMap {M : Nat → Prop} {t : TypeId} (hS : Keep S No w) (hM : Old M w) (hg : gd ops n F g = true)
    (h : ∀ b w1, Evo No w w1 → MapB b [] w1 → w.heap.size ≤ b → Old (Plus M b) w1 → SQ P ops S n K r (putE d (.map (some b)) F) w1) : SQ P ops S n K (.l ⟨d, .makeMap t none, ty, pos, af, g⟩ r) F w := by
  refine l_val (w1 := w.alloc (.map #[] 0)) _ hg ?_ (hS _ (Evo.alloc w _))
    (h w.heap.size _ (Evo.alloc w _) ⟨#[], 0, heap_alloc_new w _, stamped_empty 0, by simp, rfl⟩ (Nat.le_refl _) ((hM.on (Evo.alloc w _)).plus (by simp)))
  simp [execOp, Instr.makeMap]
theorem l_lookup {x y : Operand} {t k e b : Nat} {l : List (Int × Value)} {key : Int} {z v : Value} {ok : Bool} (hS : S w) (hg : gd ops n F g = true) (hx : ev n F x = .map (some b)) (hy : ev n F y = .int .i64 key) (hT : mapB P t = some (k, e))
    (hb : MapB b l w) (hz : ∀ w, (zeroValue e).run P w = .ok z w) (hv : (if ok then .tuple #[(asc l key).getD z, .bool (asc l key).isSome] else (asc l key).getD z) = v)
    (h : SQ P ops S n K r (putE d v F) w) : SQ P ops S n K (.l ⟨d, .lookup t x y ok, ty, pos, af, g⟩ r) F w :=
  l_val v hg (by simp only [execOp, hx, hy, Sem.run_bind, run_lookup_int hT hb hz ok, hv]; rfl) hS h
theorem q_lookup {x y : Operand} {t k e b : Nat} {l : List (Int × Value)} {key : Int} {z v : Value} {ok : Bool} (hg : gd ops n F g = true) (hx : ev n F x = .map (some b)) (hy : ev n F y = .int .i64 key) (hT : mapB P t = some (k, e))
    (hb : ∀ w', S w' → MapB b l w') (hz : ∀ w, (zeroValue e).run P w = .ok z w) (hv : (if ok then .tuple #[(asc l key).getD z, .bool (asc l key).isSome] else (asc l key).getD z) = v)
    (h : SQ P ops S n K r (putE d v F) w) : SQ P ops S n K (.q ⟨d, .lookup t x y ok, ty, pos, af, g⟩ r) F w :=
  q_run v hg (fun w' e' => by simp only [execOp, hx, hy, Sem.run_bind, run_lookup_int hT (hb w' e') hz ok, hv]; rfl) h
theorem l_mapUpdate {x y u : Operand} {t k e b : Nat} {l : List (Int × Value)} {key : Int} {v : Value} (hS : Keep S (· = b) w) (hg : gd ops n F g = true) (hx : ev n F x = .map (some b)) (hy : ev n F y = .int .i64 key) (hu : ev n F u = v)
    (hT : mapB P t = some (k, e)) (hb : MapB b l w) (h : ∀ w1, Evo (· = b) w w1 → MapB b (upd l key v) w1 → SQ P ops S n K r (putE d undef F) w1) : SQ P ops S n K (.l ⟨d, .mapUpdate t x y u, ty, pos, af, g⟩ r) F w := by
  obtain ⟨w1, h1, h2, h3⟩ := run_update_int (P := P) (key := key) (v := v) hT hb
  exact l_skip hg (by simp only [execOp, hx, hy, hu, Sem.run_bind, h1]; rfl) (hS w1 h2) (h w1 h2 h3)
theorem l_lenM {x : Operand} {t k e b : Nat} {l : List (Int × Value)} (hS : S w) (hg : gd ops n F g = true) (hx : ev n F x = .map (some b)) (hT : mapB P t = some (k, e)) (hb : MapB b l w)
    (h : SQ P ops S n K r (putE d (.int .i64 (l.length : Int)) F) w) : SQ P ops S n K (.l ⟨d, .call ⟨.builtin .len, #[x], #[t]⟩, ty, pos, af, g⟩ r) F w := by
  obtain ⟨es, clk, hb, hM⟩ := hb
  have hl : l.length = es.size := by rw [← hM.val]; simp
  rw [hl] at h
  refine l_val _ hg ?_ hS h
  simp [execOp, resolve, invoke, builtin, hx, Builtin.len_, run_underlying (mapB_spec hT).1, Go.MapKept.run_getObj_map hb, goInt]
theorem l_range {x : Operand} {t k e b : Nat} {l : List (Int × Value)} (hS : Keep S No w) (hg : gd ops n F g = true) (hx : ev n F x = .map (some b)) (hT : mapB P t = some (k, e)) (hb : MapB b l w)
    (h : ∀ bi w1, Evo No w w1 → ItB bi b l l none w1 → w.heap.size ≤ bi → SQ P ops S n K r (putE d (.pointer (some ⟨bi, 0, none⟩)) F) w1) : SQ P ops S n K (.l ⟨d, .range t x, ty, pos, af, g⟩ r) F w := by
  obtain ⟨w1, h1, h2, h3⟩ := run_range_it (P := P) w hT hb
  exact l_val _ hg (by simp only [execOp, hx, Sem.run_bind, h1]; rfl) (hS w1 h2) (h _ w1 h2 h3 (Nat.le_refl _))
theorem l_next {x : Operand} {bi b : Nat} {l left : List (Int × Value)} {cur : Option (Int × Value)} (hS0 : S w) (hS : Keep S (· = bi) w) (hg : gd ops n F g = true) (hx : ev n F x = .pointer (some ⟨bi, 0, none⟩)) (hi : ItB bi b l left cur w)
    (h0 : left = [] → SQ P ops S n K r (putE d (.tuple #[.bool false]) F) w)
    (h1 : ∀ k v left' w1, left.Perm ((k, v) :: left') → Evo (· = bi) w w1 → ItB bi b l left' (some (k, v)) w1 → SQ P ops S n K r (putE d (.tuple #[.bool true, .int .i64 k, v]) F) w1) :
    SQ P ops S n K (.l ⟨d, .next x false, ty, pos, af, g⟩ r) F w := by
  rcases run_next_it (P := P) w ty hi with ⟨h2, h3⟩ | ⟨p, left', w1, h2, h3, h4, h5⟩
  · exact l_val _ hg (by simp only [execOp, hx, Sem.run_bind, h3]; rfl) hS0 (h0 h2)
  · exact l_val _ hg (by simp only [execOp, hx, Sem.run_bind, h5]; rfl) (hS w1 h3) (h1 p.1 p.2 left' w1 h2 h3 h4)
theorem l_entry {x : Operand} {bi b : Nat} {l left : List (Int × Value)} {k : Int} {v : Value} (hS : S w) (hg : gd ops n F g = true) (hx : ev n F x = .pointer (some ⟨bi, 0, none⟩)) (hi : ItB bi b l left (some (k, v)) w)
    (h : SQ P ops S n K r (putE d (.tuple #[.int .i64 k, v]) F) w) : SQ P ops S n K (.l ⟨d, .entry x, ty, pos, af, g⟩ r) F w :=
  l_val _ hg (by simp only [execOp, hx, Sem.run_bind, run_entry_it (P := P) w hi]; rfl) hS h

theorem run_zeroV {P : Program} {t : TypeId} {z : Value} (h : (P.info? t).bind (·.zero) = some z) (w : World) : (zeroValue t).run P w = .ok z w := by
  cases hi : P.info? t with
  | none => simp [hi] at h
  | some i =>
    simp only [hi, Option.bind_some] at h
    simp [zeroValue, typeInfo, hi, h]
/-- Where a field lies in a struct value: a field of one cell; a field that is a struct or an array itself, with its cells. -/
def fldP (P : Program) (s f : Nat) : Option Nat := match P.underlying s with
  | some (.struct fs) => match fs[f]? with
    | some fd => if plainB P fd.type then some fd.offset else none
    | none => none
  | _ => none
def fldA (P : Program) (s f : Nat) : Option (Nat × Nat) := match P.underlying s with
  | some (.struct fs) => match fs[f]? with
    | some fd => (aggB P fd.type).map fun k => (fd.offset, k)
    | none => none
  | _ => none
theorem q_field {x : Operand} {t f o : Nat} {v : Value} {cs : List Value} (hg : gd ops n F g = true) (hx : ev n F x = .agg cs.toArray) (hT : fldP P t f = some o) (hv : cs[o]? = some v)
    (h : SQ P ops S n K r (putE d v F) w) : SQ P ops S n K (.q ⟨d, .field t x f, ty, pos, af, g⟩ r) F w :=
  q_run _ hg (fun w' _ => by
    unfold fldP at hT
    cases hu : P.underlying t with
    | none => simp [hu] at hT
    | some dd =>
      cases dd <;> simp [hu] at hT
      rename_i fs
      cases hf : fs[f]? with
      | none => simp [hf] at hT
      | some fd =>
        simp [hf] at hT
        obtain ⟨h1, rfl⟩ := hT
        simp [execOp, hx, Instr.field, run_underlying hu, hf, part, run_isAgg_plain h1, asAgg, hv]) h
theorem q_fieldA {x : Operand} {t f o k : Nat} {vs cs : List Value} (hg : gd ops n F g = true) (hx : ev n F x = .agg cs.toArray) (hT : fldA P t f = some (o, k)) (hv : (cs.drop o).take k = vs)
    (h : SQ P ops S n K r (putE d (.agg vs.toArray) F) w) : SQ P ops S n K (.q ⟨d, .field t x f, ty, pos, af, g⟩ r) F w :=
  q_run _ hg (fun w' _ => by
    unfold fldA at hT
    cases hu : P.underlying t with
    | none => simp [hu] at hT
    | some dd =>
      cases dd <;> simp [hu] at hT
      rename_i fs
      cases hf : fs[f]? with
      | none => simp [hf] at hT
      | some fd =>
        simp [hf] at hT
        obtain ⟨h1, rfl⟩ := hT
        simp [execOp, hx, Instr.field, run_underlying hu, hf, part, run_isAgg_agg h1, run_size (aggB_size h1), asAgg]
        rw [← hv]) h
/-! ### Interface values, pointers -/
/-- A comparison that looks at memory. -/
theorem l_eqOf {x y : Operand} {t t' : TypeId} {u v : Value} {b : Bool} (hS : S w) (hg : gd ops n F g = true) (hx : ev n F x = u) (hy : ev n F y = v) (hE : (binOp .eql t u v).run P w = .ok (.bool b) w) (hG : (eqGuard .eql t x y u v).run P w = .ok () w)
    (h : SQ P ops S n K r (putE d (.bool b) F) w) : SQ P ops S n K (.l ⟨d, .binOp .eql t x y t', ty, pos, af, g⟩ r) F w :=
  l_val _ hg (by subst hx hy; simp only [execOp, Sem.run_bind, hG, Result.andThen, hE]; rfl) hS h
/-- Two pointers of one type in interface values. -/
def eqPtrB (P : Program) (ti tp : TypeId) : Bool := match P.underlying ti, P.underlying tp, P.info? tp with
  | some (.interface _), some (.pointer te), some i => i.comparable && (match P.info? te with | some j => !(j.size == 0) | none => false)
  | _, _, _ => false
theorem run_eql_ptrs {P : Program} {w : World} {ti tp : Nat} {a b : Addr} {T T' : Nat} {cs cs' : Array Value} (h : eqPtrB P ti tp = true) (hb : w.heap[a.block]? = some (.cells cs T (0, 0))) (hc : w.heap[b.block]? = some (.cells cs' T' (0, 0))) :
    (binOp .eql ti (.iface tp (.pointer (some a))) (.iface tp (.pointer (some b)))).run P w = .ok (.bool (decide (a = b))) w := by
  unfold eqPtrB at h
  cases h1 : P.underlying ti with
  | none => simp [h1] at h
  | some d1 =>
    cases h2 : P.underlying tp with
    | none => cases d1 <;> simp [h1, h2] at h
    | some d2 =>
      cases h3 : P.info? tp with
      | none => cases d1 <;> cases d2 <;> simp [h1, h2, h3] at h
      | some i =>
        cases d1 <;> simp [h1, h2, h3] at h
        cases d2 <;> simp at h
        rename_i ms te
        obtain ⟨hcomp, h⟩ := h
        cases h4 : P.info? te with
        | none => simp [h4] at h
        | some j =>
          simp [h4] at h
          by_cases hbc : a = b
          · subst hbc
            rw [run_eql_iface_ptr_same w _ h1 h2 h3 hcomp h4]
            simp
          · rw [run_eql_iface_ptr_other w h1 h2 h3 hcomp h4 h hbc hb hc]
            simp [hbc]
def ptrB (P : Program) (t : TypeId) : Option Nat := match P.underlying t with
  | some (.pointer e) => szB P e
  | _ => none
theorem ptrB_spec {P : Program} {t k : Nat} (h : ptrB P t = some k) : ∃ e i, P.underlying t = some (.pointer e) ∧ P.info? e = some i ∧ i.size = k := by
  unfold ptrB at h
  cases hu : P.underlying t with
  | none => simp [hu] at h
  | some dd =>
    cases dd <;> simp [hu] at h
    rename_i e
    unfold szB at h
    obtain ⟨i, hi, hk⟩ := Option.map_eq_some_iff.1 h
    exact ⟨e, i, rfl, hi, hk⟩
/-- A pointer against nil. -/
theorem q_ptrNil {x : Operand} {t t' k : Nat} {a : Option Addr} (hg : gd ops n F g = true) (hx : ev n F x = .pointer a) (hT : ptrB P t = some k)
    (h : SQ P ops S n K r (putE d (.bool a.isNone) F) w) : SQ P ops S n K (.q ⟨d, .binOp .eql t x (.const (.pointer none)) t', ty, pos, af, g⟩ r) F w := by
  obtain ⟨e, i, hu, _, _⟩ := ptrB_spec hT
  refine q_eqOf hg hx rfl (fun _ _ => by simp [eqGuard, ev]) rfl (fun w' _ => ?_) h
  show (Op.equalIn (9999 + 1) t (.pointer a) (.pointer none)).run P w' = _
  unfold Op.equalIn
  cases a <;> simp [run_underlying hu]
theorem q_ptrNilNe {x : Operand} {t t' k : Nat} {a : Option Addr} (hg : gd ops n F g = true) (hx : ev n F x = .pointer a) (hT : ptrB P t = some k)
    (h : SQ P ops S n K r (putE d (.bool !a.isNone) F) w) : SQ P ops S n K (.q ⟨d, .binOp .neq t x (.const (.pointer none)) t', ty, pos, af, g⟩ r) F w := by
  obtain ⟨e, i, hu, _, _⟩ := ptrB_spec hT
  refine q_neOf hg hx rfl (fun _ _ => by simp [eqGuard, ev]) rfl (fun w' _ => ?_) h
  show (Op.equalIn (9999 + 1) t (.pointer a) (.pointer none)).run P w' = _
  unfold Op.equalIn
  cases a <;> simp [run_underlying hu]
/-- x.(T) with 'ok', T no interface type. -/
theorem q_assert_t {x : Operand} {t a : TypeId} {v : Value} (hg : gd ops n F g = true) (hx : ev n F x = .iface a v) (hT : (match P.underlying a with | some (.interface _) => false | none => false | _ => true) = true)
    (h : SQ P ops S n K r (putE d (.tuple #[v, .bool true]) F) w) : SQ P ops S n K (.q ⟨d, .typeAssert x t a true, ty, pos, af, g⟩ r) F w :=
  q_run _ hg (fun w' _ => by
    cases hu : P.underlying a with
    | none => simp [hu] at hT
    | some dd =>
      simp only [execOp, hx, Instr.typeAssert]
      cases dd <;> first | (simp [hu] at hT; done) | simp [run_underlying hu]) h
theorem q_assert_f {x : Operand} {t a u : TypeId} {v z : Value} (hg : gd ops n F g = true) (hx : ev n F x = .iface u v) (hne : u ≠ a) (hT : (match P.underlying a with | some (.interface _) => false | none => false | _ => true) = true)
    (hz : ∀ w, (zeroValue a).run P w = .ok z w) (h : SQ P ops S n K r (putE d (.tuple #[z, .bool false]) F) w) : SQ P ops S n K (.q ⟨d, .typeAssert x t a true, ty, pos, af, g⟩ r) F w :=
  q_run _ hg (fun w' _ => by
    cases hu : P.underlying a with
    | none => simp [hu] at hT
    | some dd =>
      simp only [execOp, hx, Instr.typeAssert]
      cases dd <;> first | (simp [hu] at hT; done) | simp [run_underlying hu, hne, hz]) h
end
end Go.Sx
