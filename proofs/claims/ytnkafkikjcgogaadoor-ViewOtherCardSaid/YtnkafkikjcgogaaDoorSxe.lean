/- Slices: what is read (Sl), what is being built (Own), append, and slices that are made. No program in sight. -/
import Derived.Test.YtnkafkikjcgogaaDoorSxd
import Derived.Deep.DeepAppendWide
import Derived.Deep.AppendSrc
set_option linter.unusedVariables false
set_option linter.unusedSimpArgs false
namespace Go.Sx
open Go.RowKit

def ab (a : Option Addr) : Nat := match a with | some x => x.block | none => 0
def ao (a : Option Addr) : Nat := match a with | some x => x.off | none => 0

/-- A slice of n elements reads as these rows of k cells. -/
structure Sl (k : Nat) (rows : List (List Value)) (a : Option Addr) (n c : Nat) (w : World) : Prop where
  len : n = rows.length
  cap : n ≤ c
  shape : ∀ r ∈ rows, r.length = k
  one : rows.flatten.all (·.oneCell') = true
  nil : a = none → c = 0
  cells : 0 < c → a = some ⟨ab a, ao a, none⟩ ∧ Cells (ab a) (ao a) rows.flatten w

theorem Sl.there {k : Nat} {rows : List (List Value)} {a : Option Addr} {n c : Nat} {w : World} (h : Sl k rows a n c w) (hn : 0 < n) : a = some ⟨ab a, ao a, none⟩ ∧ Cells (ab a) (ao a) rows.flatten w := by
  refine h.cells ?_
  have := h.cap
  omega
theorem flatten_at {k : Nat} : ∀ (rows : List (List Value)) (i : Nat) (r : List Value), (∀ r ∈ rows, r.length = k) → rows[i]? = some r → ∀ j v, r[j]? = some v → rows.flatten[i * k + j]? = some v
  | [], i, r, _, h, _, _, _ => by simp at h
  | r0 :: rows, 0, r, hs, h, j, v, hj => by
    simp only [List.getElem?_cons_zero, Option.some.injEq] at h
    subst h
    simp only [List.flatten_cons, Nat.zero_mul, Nat.zero_add]
    rw [List.getElem?_append_left (by
      rcases Nat.lt_or_ge j r0.length with h' | h'
      · exact h'
      · rw [List.getElem?_eq_none h'] at hj; cases hj)]
    exact hj
  | r0 :: rows, i + 1, r, hs, h, j, v, hj => by
    have hl : r0.length = k := hs r0 (by simp)
    simp only [List.flatten_cons]
    rw [List.getElem?_append_right (by rw [hl]; simp only [Nat.add_mul]; omega)]
    rw [show (i + 1) * k + j - r0.length = i * k + j from by rw [hl]; simp only [Nat.add_mul]; omega]
    exact flatten_at rows i r (fun r hr => hs r (by simp [hr])) (by simpa using h) j v hj
/-- An element's cells. -/
theorem Sl.area {k : Nat} {rows : List (List Value)} {a : Option Addr} {n c : Nat} {w : World} (h : Sl k rows a n c w) {i : Nat} {r : List Value} (hr : rows[i]? = some r) : Cells (ab a) (ao a + i * k) r w := fun j v hj => by
  have hlt : i < rows.length := by
    rcases Nat.lt_or_ge i rows.length with h' | h'
    · exact h'
    · rw [List.getElem?_eq_none h'] at hr; cases hr
  have := (h.there (by have := h.len; omega)).2 (i * k + j) v (flatten_at rows i r h.shape hr j v hj)
  rw [show ao a + i * k + j = ao a + (i * k + j) from by omega]
  exact this
theorem Sl.areaAt {M : Nat → Prop} {k : Nat} {rows : List (List Value)} {a : Option Addr} {n c : Nat} {w : World} (h : At M w (Sl k rows a n c)) {i : Int} {r : List Value} (hr : rows[i.toNat]? = some r) :
    At M w (Cells (ab a) (ao a + i.toNat * k) r) := h.imp fun _ _ h => h.area hr

section
variable {P : Program} {ops : Array Oper} {S : World → Prop} {n : Nat} {K : Env → World → Prop} {F : Env} {w : World} {r : Tr}
variable {d : Option Tmp} {ty : TypeId} {pos : String} {af : Array Edge} {g : Option (Nat × Bool)}

theorem q_indexS' {x y : Operand} {t e k len cap : Nat} {a : Option Addr} {i : Int} {ik : IntKind} (hg : gd ops n F g = true) (hx : ev n F x = .slice a len cap) (hy : ev n F y = .int ik i)
    (hT : elemB P t = some (e, k)) (ha : a = some ⟨ab a, ao a, none⟩) (h0 : 0 ≤ i) (h1 : i < len) (h : SQ P ops S n K r (putE d (.pointer (some ⟨ab a, ao a + i.toNat * k, none⟩)) F) w) :
    SQ P ops S n K (.q ⟨d, .indexAddr t x y, ty, pos, af, g⟩ r) F w :=
  q_indexAddr hg (ha ▸ hx) hy hT h0 h1 h
end

/-- The element that is asked for. -/
theorem Sl.get {α : Type} {enc : α → List Value} {k : Nat} {xs : List α} {a : Option Addr} {n c : Nat} {w : World} (h : Sl k (xs.map enc) a n c w) {i : Int} (h0 : 0 ≤ i) (h1 : i < n) : ∃ x, xs[i.toNat]? = some x := by
  have hl := h.len
  rw [List.length_map] at hl
  exact ⟨xs[i.toNat]'(by omega), List.getElem?_eq_getElem (by omega)⟩
theorem Sl.map_get {α : Type} {enc : α → List Value} {xs : List α} {i : Nat} {x : α} (h : xs[i]? = some x) : (xs.map enc)[i]? = some (enc x) := by rw [List.getElem?_map, h]; rfl

/-- The byte that is asked for. -/
theorem strGet (s : ByteArray) {i : Int} (h0 : 0 ≤ i) (h1 : i < s.size) : ∃ c, s[i.toNat]? = some c ∧ s.data.toList[i.toNat]? = some c := by
  have hl : i.toNat < s.size := by omega
  refine ⟨s[i.toNat], by simp [hl], ?_⟩
  have hl' : i.toNat < s.data.toList.length := by simpa using hl
  rw [List.getElem?_eq_getElem hl']
  rfl

/-! ### Sub-slices -/
theorem Sl.take {k : Nat} {rows : List (List Value)} {a : Option Addr} {n c : Nat} {w : World} (h : Sl k rows a n c w) {m : Nat} (hm : m ≤ n) : Sl k (rows.take m) a m c w := by
  have hlen := h.len
  refine ⟨by simp; omega, by have := h.cap; omega, fun r hr => h.shape r (List.mem_of_mem_take hr), ?_, h.nil, fun ha => ?_⟩
  · rw [List.all_eq_true]
    intro v hv
    exact List.all_eq_true.1 h.one v (by
      obtain ⟨l, hl, hv⟩ := List.mem_flatten.1 hv
      exact List.mem_flatten.2 ⟨l, List.mem_of_mem_take hl, hv⟩)
  · obtain ⟨h1, h2⟩ := h.cells ha
    refine ⟨h1, fun j v hj => h2 j v ?_⟩
    have : rows.flatten = (rows.take m).flatten ++ (rows.drop m).flatten := by rw [← List.flatten_append, List.take_append_drop]
    rw [this, List.getElem?_append_left]
    · exact hj
    · rcases Nat.lt_or_ge j (rows.take m).flatten.length with h' | h'
      · exact h'
      · rw [List.getElem?_eq_none h'] at hj; cases hj

section
variable {P : Program} {ops : Array Oper} {S : World → Prop} {n : Nat} {K : Env → World → Prop} {F : Env} {w : World} {r : Tr}
variable {d : Option Tmp} {ty : TypeId} {pos : String} {af : Array Edge} {g : Option (Nat × Bool)}
/-- xs[:hi] -/
theorem q_sliceHi {x y : Operand} {t e k len cap : Nat} {a : Option Addr} {hi : Int} {ik : IntKind} (hg : gd ops n F g = true) (hx : ev n F x = .slice a len cap) (hy : ev n F y = .int ik hi) (hT : elemB P t = some (e, k))
    (h0 : 0 ≤ hi) (h1 : hi ≤ cap) (h : SQ P ops S n K r (putE d (.slice a hi.toNat cap) F) w) : SQ P ops S n K (.q ⟨d, .slice t x none (some y) none, ty, pos, af, g⟩ r) F w :=
  q_run _ hg (fun w' _ => by
    unfold elemB at hT
    cases hu : P.underlying t with
    | none => simp [hu] at hT
    | some dd =>
      cases dd with
      | slice e' =>
        simp only [hu, Option.map_eq_some_iff, Prod.mk.injEq] at hT
        obtain ⟨k', hk, rfl, rfl⟩ := hT
        have ha : (if cap = 0 then a else a.map fun x => x.add (0 * k')) = a := by
          split
          · rfl
          · cases a <;> simp [Addr.add]
        simp only [Nat.zero_mul] at ha
        simp [execOp, hx, hy, Instr.sliceAt, Instr.slice, Instr.sliceBounds, Instr.sliceBound, asIntOf, run_underlying hu, h0, h1, run_size hk]
        cases a <;> simp [Addr.add]
      | _ => simp [hu] at hT) h
end

/-! ### A slice that is being built -/
structure Own (k e : Nat) (rows : List (List Value)) (a : Option Addr) (n c : Nat) (w : World) : Prop where
  len : n = rows.length
  shape : ∀ r ∈ rows, r.length = k
  one : rows.flatten.all (·.oneCell') = true
  row : (a = none ∧ n = 0 ∧ c = 0) ∨ ∃ cs : List Value, a = some ⟨ab a, 0, none⟩ ∧ Blk (ab a) cs e w ∧ cs.length = c * k ∧ n ≤ c ∧ cs.take (n * k) = rows.flatten
/-- The block that it may write. -/
def OwnB (a : Option Addr) : Nat → Prop := fun b => a ≠ none ∧ b = ab a
def OwnM (M : Nat → Prop) (a : Option Addr) : Nat → Prop := fun b => M b ∨ OwnB a b

theorem Own.nil (k e : Nat) (w : World) : Own k e [] none 0 0 w := ⟨rfl, by simp, rfl, .inl ⟨rfl, rfl, rfl⟩⟩
theorem Own.on {k e : Nat} {rows : List (List Value)} {a : Option Addr} {n c : Nat} {X : Nat → Prop} {w w' : World} (h : Own k e rows a n c w) (s : Evo X w w') (hX : ∀ b, OwnB a b → ¬ X b) : Own k e rows a n c w' := by
  refine ⟨h.len, h.shape, h.one, ?_⟩
  rcases h.row with h1 | ⟨cs, h1, h2, h3⟩
  · exact .inl h1
  · exact .inr ⟨cs, h1, h2.on s (hX _ ⟨by rw [h1]; simp, rfl⟩), h3⟩
theorem Own.no {k e : Nat} {rows : List (List Value)} {a : Option Addr} {n c : Nat} {w w' : World} (h : Own k e rows a n c w) (s : Evo No w w') : Own k e rows a n c w' := h.on s fun _ _ h => h
theorem Own.lt {k e : Nat} {rows : List (List Value)} {a : Option Addr} {n c : Nat} {w : World} (h : Own k e rows a n c w) : ∀ b, OwnB a b → b < w.heap.size := fun b ⟨h1, h2⟩ => by
  rcases h.row with h3 | ⟨cs, h3, h4, _⟩
  · exact absurd h3.1 h1
  · exact h2 ▸ h4.lt
theorem flatten_len {k : Nat} : ∀ (rows : List (List Value)), (∀ r ∈ rows, r.length = k) → rows.flatten.length = rows.length * k
  | [], _ => by simp
  | r :: rows, h => by
    rw [List.flatten_cons, List.length_append, flatten_len rows (fun r hr => h r (by simp [hr])), h r (by simp), List.length_cons, Nat.add_mul]
    omega
theorem Own.sl {k e : Nat} {rows : List (List Value)} {a : Option Addr} {n c : Nat} {w : World} (h : Own k e rows a n c w) : Sl k rows a n c w := by
  rcases h.row with ⟨h1, h2, h3⟩ | ⟨cs, h1, h2, h3, h4, h5⟩
  · exact ⟨h.len, by omega, h.shape, h.one, fun _ => h3, fun hc => absurd hc (by omega)⟩
  · have ho : ao a = 0 := by rw [h1]; rfl
    refine ⟨h.len, h4, h.shape, h.one, fun ha => (by rw [ha] at h1; cases h1), fun _ => ⟨by rw [ho]; exact h1, fun j v hj => ?_⟩⟩
    rw [ho, Nat.zero_add, h2.cell]
    rw [← h5] at hj
    have hlt : j < n * k := by
      rcases Nat.lt_or_ge j (n * k) with h' | h'
      · exact h'
      · rw [List.getElem?_eq_none (by simp; omega)] at hj; cases hj
    rw [List.getElem?_take_of_lt hlt] at hj
    exact hj
/-- What is being built, once nobody writes it any more. -/
theorem Own.at_ {k e : Nat} {rows : List (List Value)} {a : Option Addr} {n c : Nat} {M : Nat → Prop} {w : World} (h : Own k e rows a n c w) (hM : ∀ b, OwnB a b → ¬ M b) : At M w (Sl k rows a n c) := fun _ s => (h.on s hM).sl

/-- A source of an append, by rows. -/
theorem Src.of {P : Program} {k tx e' : Nat} (hk : P.underlying tx = some (.slice e')) {rows : List (List Value)} {a : Option Addr} {n c : Nat} {w : World} (h : Sl k rows a n c w) : Src P k tx (.slice a n c) n rows.flatten w := by
  have hl : rows.flatten.length = n * k := by rw [flatten_len rows h.shape, ← h.len]
  have h1 : ∀ u ∈ rows.flatten, u.oneCell' = true := fun u hu => List.all_eq_true.1 h.one u hu
  cases ha : a with
  | none =>
    have hc := h.nil ha
    have hn : n = 0 := by have := h.cap; omega
    subst hn
    have : rows = [] := List.eq_nil_of_length_eq_zero h.len.symm
    subst this
    exact Src.ofNil w hk c
  | some x =>
    by_cases hc : 0 < c
    · obtain ⟨h2, h3⟩ := h.cells hc
      have hx : x = ⟨ab a, ao a, none⟩ := by rw [ha] at h2 ⊢; exact Option.some.inj h2
      subst hx
      exact Src.ofSlice w hk _ n c _ hl (fun j u hu => by rw [Addr.add_plain]; exact h3 j u hu) h1
    · have hn : n = 0 := by have := h.cap; omega
      have : rows = [] := List.eq_nil_of_length_eq_zero (by rw [← h.len]; exact hn)
      subst this
      exact Src.ofSlice w hk _ n c _ hl (fun j u hu => by simp at hu) h1

/-- A string's bytes, as rows. -/
def strRows (s : ByteArray) : List (List Value) := s.data.toList.map fun b => [Value.int .u8 b.toNat]
theorem strRows_shape {s : ByteArray} : ∀ r ∈ strRows s, r.length = 1 := fun r hr => by
  obtain ⟨_, _, rfl⟩ := List.mem_map.1 hr; rfl
@[simp] theorem strRows_length (s : ByteArray) : (strRows s).length = s.size := by simp [strRows]
theorem strRows_flatten (s : ByteArray) : (strRows s).flatten = byteCells s := by
  unfold strRows byteCells
  induction s.data.toList with
  | nil => rfl
  | cons x l ih => simp [ih]
theorem Src.ofStr {P : Program} {tx : TypeId} (hk : P.underlying tx = some .string) {s : ByteArray} {w : World} : Src P 1 tx (.string s) s.size (strRows s).flatten w := by
  rw [strRows_flatten]; exact Src.ofString w hk s

theorem setCells_setRow {b o T : Nat} {cur vs : List Value} {w : World} (h : Blk b cur T w) (hl : o + vs.length ≤ cur.length) (h1 : ∀ v ∈ vs, v.oneCell' = true) :
    w.setCells b o vs = w.setRow b (cur.take o ++ vs ++ cur.drop (o + vs.length)).toArray := by
  have e1 := run_storeCells_at (P := default) b o T vs 0 cur.toArray w h (by simpa using hl) h1
  have e2 := run_storeCells_cells (P := default) b o vs 0 w (fun j hj => by rw [h.cell]; simp; omega) (fun j hj => h.free _) h1
  rw [e1] at e2
  injection e2 with _ e3
  simpa using e3.symm

theorem run_append_own' {P : Program} (w : World) (t tx ty e k B : Nat) (i : TypeInfo) (z : Value) (ht : P.underlying t = some (.slice e)) (hi : P.info? e = some i) (hz : i.zero = some z) (hsize : i.size = k) (hby : i.bytes = B)
    (hzs : z.cells.size = k) {rows : List (List Value)} {a : Option Addr} {n c : Nat} (hO : Own k e rows a n c w) {x : Value} {m : Nat} {news : List (List Value)} (hm : m = news.length) (hsh : ∀ r ∈ news, r.length = k)
    (hs : Src P k tx x m news.flatten w) (hn : n + m ≤ 4294967296) (hB : B ≤ 1024) :
    ∃ a' c' w', (Builtin.append_ #[t, tx] ty #[.slice a n c, x]).run P w = .ok (.slice a' (n + m) c') w' ∧ Evo (OwnB a) w w' ∧ Own k e (rows ++ news) a' (n + m) c' w' ∧ (a' = a ∨ w.heap.size ≤ ab a') ∧ (0 < n + m → a' ≠ none) := by
  subst hsize hby
  have hlr : rows.flatten.length = n * i.size := by rw [flatten_len rows hO.shape, ← hO.len]
  have hln : news.flatten.length = m * i.size := by rw [flatten_len news hsh, ← hm]
  have hlen : n + m = (rows ++ news).length := by rw [List.length_append, ← hO.len, ← hm]
  have hshape : ∀ r ∈ rows ++ news, r.length = i.size := fun r hr => (List.mem_append.1 hr).elim (hO.shape r) (hsh r)
  have hone : (rows ++ news).flatten.all (·.oneCell') = true := by
    rw [List.flatten_append, List.all_append, hO.one, Bool.true_and, List.all_eq_true]
    exact hs.one
  have hbytes : ((n + m) + (n + m) / 4 + 192) * i.bytes ≤ 281474976710656 := Nat.le_trans (Nat.mul_le_mul_left _ hB) (by omega)
  -- the growing arm
  have grow : ∀ (hold : (Builtin.firstCells i.size n (.slice a n c)).run P w.drew = .ok rows.flatten.toArray w.drew), c < n + m →
      ∃ a' c' w', (Builtin.append_ #[t, tx] ty #[.slice a n c, x]).run P w = .ok (.slice a' (n + m) c') w' ∧ Evo (OwnB a) w w' ∧ Own i.size e (rows ++ news) a' (n + m) c' w' ∧ (a' = a ∨ w.heap.size ≤ ab a') ∧ (0 < n + m → a' ≠ none) := by
    intro hold hc
    have hr := run_append_grow_src (P := P) w t tx ty e i z ht hi hz a n c rows.flatten hold x m news.flatten hs hc (by omega) (growslice_fits_wide hc hbytes)
    have hge := grownCap_ge w (n + m) c e
    have hblk := Blk.new w.drew ((rows.flatten ++ news.flatten) ++ (Builtin.zeroCells z.cells (grownCap w (n + m) c e - (n + m))).toList) e
    have hw : w.drew.alloc (.cells ((rows.flatten ++ news.flatten).toArray ++ Builtin.zeroCells z.cells (grownCap w (n + m) c e - (n + m))) e) =
        w.drew.alloc (.cells (((rows.flatten ++ news.flatten) ++ (Builtin.zeroCells z.cells (grownCap w (n + m) c e - (n + m))).toList).toArray) e) := by
      congr 2
      apply Array.ext'
      simp
    rw [hw] at hr
    refine ⟨_, _, _, hr, ⟨rfl, rfl, rfl, by simp, drw_drew w, fun b hb _ => Below.heap_alloc w.drew _ b hb⟩, ⟨hlen, hshape, hone, .inr ⟨_, rfl, hblk, ?_, hge, ?_⟩⟩, .inr (Nat.le_refl _), fun _ => by simp⟩
    · simp only [List.length_append, hlr, hln, Array.length_toList, size_zeroCells, hzs, ← Nat.add_mul]
      congr 1; omega
    · rw [List.flatten_append, show (n + m) * i.size = (rows.flatten ++ news.flatten).length from by rw [List.length_append, hlr, hln, Nat.add_mul]]
      exact List.take_left
  rcases hO.row with ⟨ha, hn0, hc0⟩ | ⟨cs, ha, hb, hcl, hnc, htk⟩
  · subst ha hn0 hc0
    have hr0 : rows = [] := List.eq_nil_of_length_eq_zero hO.len.symm
    subst hr0
    by_cases hm0 : m = 0
    · subst hm0
      have hn0 : news = [] := List.eq_nil_of_length_eq_zero hm.symm
      subst hn0
      refine ⟨none, 0, w, ?_, Evo.refl _ _, Own.nil _ _ _, .inl rfl, fun h => absurd h (by omega)⟩
      rcases hs.kind with ⟨e', hk⟩ | hk <;> simp [Builtin.append_, run_underlying ht, run_underlying hk, sizeOf, typeInfo, hi, hs.len, show (Builtin.firstCells i.size 0 x).run P w = .ok #[] w from hs.cells]
    · exact grow (run_firstCells_none w.drew i.size 0 0 0) (by omega)
  · by_cases hroom : n + m ≤ c
    · have hle : n * i.size + news.flatten.length ≤ cs.length := by rw [hln, hcl, ← Nat.add_mul]; exact Nat.mul_le_mul_right _ hroom
      have hr := run_append_room_src (P := P) w t tx ty e i ht hi (ab a) 0 n c x m news.flatten hs hroom
        (fun j hj => by rw [hb.cell]; simp; omega) (fun j hj => hb.free _)
      rw [← ha, Nat.zero_add, setCells_setRow hb hle hs.one] at hr
      refine ⟨_, _, _, hr, (Evo.setRow w (ab a) _).to fun b _ e0 => ⟨by rw [ha]; simp, e0⟩, ⟨hlen, hshape, hone, .inr ⟨_, ha, hb.setRow _, ?_, hroom, ?_⟩⟩, .inl rfl, fun _ => by rw [ha]; simp⟩
      · simp only [List.length_append, List.length_take, List.length_drop]; omega
      · rw [htk, List.flatten_append, List.append_assoc, ← List.append_assoc, show (n + m) * i.size = (rows.flatten ++ news.flatten).length from by rw [List.length_append, hlr, hln, Nat.add_mul]]
        exact List.take_left
    · refine grow ?_ (by omega)
      have hsl := hO.sl
      have h0 : ao a = 0 := by rw [ha]; rfl
      have hcells : Cells (ab a) (ao a) rows.flatten w := fun j u hu => by
        by_cases hc : 0 < c
        · exact (hsl.cells hc).2 j u hu
        · have : rows = [] := List.eq_nil_of_length_eq_zero (by rw [← hO.len]; omega)
          subst this; simp at hu
      rw [ha]
      exact run_firstCells_some w.drew i.size n ⟨ab a, 0, none⟩ n c rows.flatten hlr (fun j u hu => by rw [Addr.add_plain]; have := hcells j u hu; rw [h0] at this; exact this)

/-! ### The operations -/
/-- A slice type's element type, its cells, its bytes; the zero value is there. -/
def appB (P : Program) (t : TypeId) : Option (Nat × Nat × Nat) := match P.underlying t with
  | some (.slice e) => match P.info? e with
    | some i => match i.zero with
      | some z => if z.cells.size = i.size then some (e, i.size, i.bytes) else none
      | none => none
    | none => none
  | _ => none
theorem Evo.own {X : Nat → Prop} {w0 w w1 : World} {a : Option Addr} (z : Evo X w0 w) (s : Evo (OwnB a) w w1) (hlo : ∀ b, OwnB a b → w0.heap.size ≤ b) : Evo X w0 w1 :=
  z.fstep s fun x hx hb => absurd (hlo x hb) (by omega)
theorem own_lo {m : Nat} {a a' : Option Addr} {w : World} (h : a' = a ∨ w.heap.size ≤ ab a') (hlo : ∀ b, OwnB a b → m ≤ b) (hm : m ≤ w.heap.size) : ∀ b, OwnB a' b → m ≤ b := fun b hb => by
  rcases h with rfl | h
  · exact hlo b hb
  · rw [hb.2]; omega
theorem own_lo_none {m : Nat} : ∀ b, OwnB none b → m ≤ b := fun b hb => absurd rfl hb.1
theorem own_lo_some {m b0 : Nat} (h : m ≤ b0) : ∀ b, OwnB (some ⟨b0, 0, none⟩) b → m ≤ b := fun b hb => by rw [hb.2]; exact h
/-- A fact of another thing, while what is being built grows. -/
theorem At.own {M : Nat → Prop} {a a' : Option Addr} {w w1 : World} {φ : World → Prop} (h : At (OwnM M a) w φ) (s : Evo (OwnB a) w w1) (hf : a' = a ∨ w.heap.size ≤ ab a') : At (OwnM M a') w1 φ := fun w2 e2 => by
  refine h w2 ⟨e2.os.trans s.os, e2.tape.trans s.tape, e2.output.trans s.output, Nat.le_trans s.size e2.size, Nat.le_trans s.drawn e2.drawn, fun b hb hm => ?_⟩
  rw [e2.block b (Nat.lt_of_lt_of_le hb s.size) fun h2 => ?_, s.block b hb fun h1 => hm (.inr h1)]
  rcases h2 with h2 | h2
  · exact hm (.inl h2)
  · rcases hf with rfl | hf
    · exact hm (.inr h2)
    · have := h2.2; omega
theorem At.ownless {M : Nat → Prop} {a : Option Addr} {w : World} {φ : World → Prop} (h : At (OwnM M a) w φ) : At M w φ := h.to fun _ _ hm => .inl hm
theorem At.owned {M : Nat → Prop} {a : Option Addr} {w : World} {φ : World → Prop} (h : At M w φ) (hf : ∀ b, OwnB a b → w.heap.size ≤ b) : At (OwnM M a) w φ := h.to fun x hx hm => hm.elim id fun hb => absurd (hf x hb) (by omega)
theorem Old.ownM {M : Nat → Prop} {k e : Nat} {rows : List (List Value)} {a : Option Addr} {n c : Nat} {w : World} (h : Old M w) (hO : Own k e rows a n c w) : Old (OwnM M a) w := fun x hx => hx.elim (h x) (hO.lt x)

theorem Own.empty {k e b : Nat} {w : World} (hb : Blk b [] e w) : Own k e [] (some ⟨b, 0, none⟩) 0 0 w := ⟨rfl, by simp, rfl, .inr ⟨[], rfl, hb, by simp, Nat.le_refl _, by simp⟩⟩
theorem Sl.ofBlk {k e b : Nat} {rows : List (List Value)} {cs : List Value} {w : World} (hb : Blk b cs e w) (hcs : rows.flatten = cs) (hsh : ∀ r ∈ rows, r.length = k) (h1 : cs.all (·.oneCell') = true) : Sl k rows (some ⟨b, 0, none⟩) rows.length rows.length w :=
  ⟨rfl, Nat.le_refl _, hsh, by rw [hcs]; exact h1, fun h => (by cases h), fun _ => ⟨rfl, by rw [hcs]; exact hb.cells⟩⟩

theorem own_notM {M : Nat → Prop} {a : Option Addr} {w : World} (hM : Old M w) (hlo : ∀ b, OwnB a b → w.heap.size ≤ b) : ∀ b, OwnB a b → ¬ M b := fun b hb hm => absurd (hlo b hb) (by have := hM b hm; omega)
theorem Evo.none {w w1 : World} (s : Evo (OwnB none) w w1) : Evo No w w1 := s.to fun _ _ h => absurd rfl h.1
theorem Sl.zero {k n c : Nat} {rows : List (List Value)} {a : Option Addr} {w : World} (h : Sl k rows a n c w) (ha : a.isNone = true) : n = 0 ∧ rows = [] := by
  have h1 := h.nil (by cases a <;> simp_all)
  have h2 := h.cap
  have h3 : n = 0 := by omega
  exact ⟨h3, List.eq_nil_of_length_eq_zero (by rw [← h.len]; exact h3)⟩
theorem Sl.nul (k : Nat) (w : World) : Sl k [] none 0 0 w := ⟨rfl, Nat.le_refl _, by simp, rfl, fun _ => rfl, fun h => absurd h (by omega)⟩

section
variable {P : Program} {ops : Array Oper} {S : World → Prop} {n : Nat} {K : Env → World → Prop} {F : Env} {w : World} {r : Tr}
variable {d : Option Tmp} {ty : TypeId} {pos : String} {af : Array Edge} {g : Option (Nat × Bool)}

theorem l_append {x y : Operand} {t tx e k B len c m : Nat} {a : Option Addr} {vy : Value} {rows news : List (List Value)} (hS : Keep S (OwnB a) w) (hg : gd ops n F g = true) (hx : ev n F x = .slice a len c) (hy : ev n F y = vy)
    (hA : appB P t = some (e, k, B)) (hO : Own k e rows a len c w) (hs : Src P k tx vy m news.flatten w) (hm : m = news.length) (hsh : ∀ r ∈ news, r.length = k) (hn : len + m ≤ 4294967296) (hB : B ≤ 1024)
    (h : ∀ a' c' w1, Evo (OwnB a) w w1 → Own k e (rows ++ news) a' (len + m) c' w1 → (a' = a ∨ w.heap.size ≤ ab a') → (0 < len + m → a' ≠ none) → SQ P ops S n K r (putE d (.slice a' (len + m) c') F) w1) :
    SQ P ops S n K (.l ⟨d, .call ⟨.builtin .append, #[x, y], #[t, tx]⟩, ty, pos, af, g⟩ r) F w := by
  unfold appB at hA
  cases hu : P.underlying t with
  | none => simp [hu] at hA
  | some dd =>
    cases dd with
    | slice e' =>
      simp only [hu] at hA
      cases hi : P.info? e' with
      | none => simp [hi] at hA
      | some i =>
        cases hz : i.zero with
        | none => simp [hi, hz] at hA
        | some z =>
          simp only [hi, hz] at hA
          split at hA
          · rename_i hzs
            simp only [Option.some.injEq, Prod.mk.injEq] at hA
            obtain ⟨rfl, h1, h2⟩ := hA
            obtain ⟨a', c', w1, hr, hev, hO', hf, hne⟩ := run_append_own' (P := P) w t tx ty e' k B i z hu hi hz h1 h2 (hzs.trans h1) hO hm hsh hs hn hB
            refine l_val (w1 := w1) _ hg ?_ (hS w1 hev) (h a' c' w1 hev hO' hf hne)
            subst hy
            simp [execOp, resolve, invoke, builtin, hx, hr]
          · cases hA
    | _ => simp [hu] at hA
theorem run_makeSlice {P : Program} {t e k B : Nat} (hA : appB P t = some (e, k, B)) (l c : Nat) (hl : l ≤ c) (hc : c ≤ 4294967296) (hB : B ≤ 1024) (w : World) :
    ∃ z : Value, ∃ cs : List Value, (P.info? e).bind (·.zero) = some z ∧ z.cells.size = k ∧ cs.length = c * k ∧ (∀ i, i < c * k → cs[i]? = some (z.cells[i % k]!)) ∧
    (Instr.makeSlice t (.int .i64 l) (.int .i64 c)).run P w = .ok (.slice (some ⟨w.heap.size, 0, none⟩) l c) (w.alloc (.cells cs.toArray e)) := by
  unfold appB at hA
  cases hu : P.underlying t with
  | none => simp [hu] at hA
  | some dd =>
    cases dd with
    | slice e' =>
      simp only [hu] at hA
      cases hi : P.info? e' with
      | none => simp [hi] at hA
      | some i =>
        cases hz : i.zero with
        | none => simp [hi, hz] at hA
        | some z =>
          simp only [hi, hz] at hA
          split at hA
          · rename_i hzs
            simp only [Option.some.injEq, Prod.mk.injEq] at hA
            obtain ⟨rfl, h1, h2⟩ := hA
            have wl : IntKind.i64.wrap (l : Int) = l := wi64 (by omega) (by omega)
            have wc : IntKind.i64.wrap (c : Int) = c := wi64 (by omega) (by omega)
            have hbc : i.bytes * c ≤ 281474976710656 := by
              have : i.bytes * c ≤ 1024 * 4294967296 := Nat.mul_le_mul (by omega) hc
              omega
            have hbc' : ¬ (281474976710656 : Int) < (i.bytes : Int) * (c : Int) := by
              have : ((i.bytes * c : Nat) : Int) ≤ 281474976710656 := by omega
              rw [Int.natCast_mul] at this
              omega
            have n1 : ¬ (c : Int) < 0 := by omega
            have n2 : ¬ (l : Int) < 0 := by omega
            have n3 : ¬ (c : Int) < (l : Int) := by omega
            subst h1
            refine ⟨z, ((Array.range (c * i.size)).map fun j => z.cells[j % i.size]!).toList, by simp [hi, hz], hzs, by simp, fun j hj => by simp [hj], ?_⟩
            rw [Array.toArray_toList]
            generalize hN : c * i.size = N
            cases N with
            | zero => simp [Instr.makeSlice, run_underlying hu, asInt, asIntOf, typeInfo, hi, wl, wc, hbc', n1, n2, n3, sizeOf, hN, newRow, Int.toNat_natCast, show Array.range 0 = #[] from by simp [Array.range]]
            | succ N => simp [Instr.makeSlice, run_underlying hu, asInt, asIntOf, typeInfo, hi, wl, wc, hbc', n1, n2, n3, sizeOf, hN, newRow, zeroValue, hz, hzs, Int.toNat_natCast]
          · cases hA
    | _ => simp [hu] at hA
/-- make([]T, 0, c) -/
theorem l_make0 {x y : Operand} {t e k B c : Nat} {ci : Int} (hS : Keep S No w) (hg : gd ops n F g = true) (hx : ev n F x = .int .i64 0) (hy : ev n F y = .int .i64 ci) (hci : ci = c) (hA : appB P t = some (e, k, B)) (hc : c ≤ 4294967296) (hB : B ≤ 1024)
    (h : ∀ a w1, Evo No w w1 → Own k e [] a 0 c w1 → w.heap.size ≤ ab a → SQ P ops S n K r (putE d (.slice a 0 c) F) w1) : SQ P ops S n K (.l ⟨d, .makeSlice t x y, ty, pos, af, g⟩ r) F w := by
  obtain ⟨z, cs, _, _, hl, _, hr⟩ := run_makeSlice hA 0 c (Nat.zero_le _) hc hB w
  refine l_val (w1 := w.alloc (.cells cs.toArray e)) _ hg ?_ (hS _ (Evo.alloc w _)) (h (some ⟨w.heap.size, 0, none⟩) _ (Evo.alloc w _) ⟨rfl, by simp, rfl, .inr ⟨cs, rfl, Blk.new w cs e, hl, Nat.zero_le _, by simp⟩⟩ (Nat.le_refl _))
  subst hci
  simp only [execOp, hx, hy, Sem.run_bind]
  have : (Instr.makeSlice t (.int .i64 0) (.int .i64 (c : Int))).run P w = _ := hr
  rw [this]; rfl
theorem l_buildSlice {M : Nat → Prop} {t e m : Nat} {ps : List (Nat × Operand)} {vs : List (Nat × Value)} {cs : List Value} (hS : Keep S No w) (hM : Old M w) (hg : gd ops n F g = true) (hp : (ps.map fun p => (p.1, ev n F p.2)) = vs)
    (hr : ∀ w', (Instr.buildSlice t m vs.toArray).run P w' = .ok (.slice (some ⟨w'.heap.size, 0, none⟩) m m) (w'.alloc (.cells cs.toArray e)))
    (h : ∀ b w1, Evo No w w1 → At M w1 (Blk b cs e) → w.heap.size ≤ b → SQ P ops S n K r (putE d (.slice (some ⟨b, 0, none⟩) m m) F) w1) :
    SQ P ops S n K (.l ⟨d, .buildSlice t m ps.toArray, ty, pos, af, g⟩ r) F w := by
  refine l_val (w1 := w.alloc (.cells cs.toArray e)) _ hg ?_ (hS _ (Evo.alloc w _)) (h w.heap.size _ (Evo.alloc w _) (Blk.newAt hM cs e) (Nat.le_refl _))
  have : (ps.toArray.map fun (x : Nat × Operand) => match x with | (i, x) => (i, ev n F x)) = vs.toArray := by rw [← hp, List.map_toArray]
  simp only [execOp, Sem.run_bind]
  rw [this, hr w]; rfl
end
end Go.Sx
