/- The models: what the functions compute, in plain Lean. -/
import Derived.Test.YtnkafkikjcgogaaDoorSxe
namespace Go.Proofs.YtnkafkikjcgogaaDoor
open Go.Sx

theorem tmod_bd (a b : Int) (hb : 0 < b) : -b < a.tmod b ∧ a.tmod b < b := by
  have h1 := Int.tmod_lt_of_pos a hb
  have h2 := Int.lt_tmod_of_pos a hb
  omega
theorem tmod_pos (a b : Int) (hb : 0 < b) (h : ¬ a.tmod b < 0) : a.tmod b = a % b := by
  have h1 := Int.tmod_lt_of_pos a hb
  have h2 : b ∣ a - a.tmod b := ⟨a.tdiv b, by have := Int.mul_tdiv_add_tmod a b; omega⟩
  have h3 : a % b = (a.tmod b) % b := by
    obtain ⟨c, hc⟩ := h2
    have : a = a.tmod b + b * c := by omega
    rw [show a % b = (a.tmod b + b * c) % b from by rw [← this], Int.add_mul_emod_self_left]
  rw [h3]
  exact (Int.emod_eq_of_lt (by omega) h1).symm
theorem tmod_neg (a b : Int) (hb : 0 < b) (h : a.tmod b < 0) : a.tmod b + b = a % b := by
  have h1 := Int.lt_tmod_of_pos a hb
  have h3 : a % b = (a.tmod b + b) % b := by
    have hc := Int.mul_tdiv_add_tmod a b
    have : a = (a.tmod b + b) + b * (a.tdiv b - 1) := by rw [Int.mul_sub]; omega
    rw [show a % b = ((a.tmod b + b) + b * (a.tdiv b - 1)) % b from by rw [← this], Int.add_mul_emod_self_left]
  rw [h3]
  exact (Int.emod_eq_of_lt (by omega) (by omega)).symm

/-- A fault as plain data. -/
abbrev flt (c : Int) (b : Bool) (p : Int) : Value := .agg (List.toArray [.int .i64 c, .bool b, .int .i64 p])
/-- An object of a manifest. -/
structure Obj where
  name : ByteArray
  len : Int
  sum : Int
  deriving DecidableEq
theorem Obj.eqIff {x y : Obj} : x = y ↔ x.name = y.name ∧ x.len = y.len ∧ x.sum = y.sum := by
  cases x; cases y; simp
/-- A manifest. -/
structure Mani where
  id : Int
  base : Int
  end_ : Int
  time : Int
  epochs : List (Int × Int)
  objects : List Obj
  deriving DecidableEq
theorem Mani.eqIff {x y : Mani} : x = y ↔ x.id = y.id ∧ x.base = y.base ∧ x.end_ = y.end_ ∧ x.time = y.time ∧ x.epochs = y.epochs ∧ x.objects = y.objects := by
  cases x; cases y; simp
def encP (p : Int × Int) : List Value := [.int .i64 p.1, .int .i64 p.2]
def encO (o : Obj) : List Value := [.string o.name, .int .i64 o.len, .int .u32 o.sum]
def encI (x : Int) : List Value := [.int .i64 x]
def encS (s : ByteArray) : List Value := [.string s]
theorem take_snoc {α : Type} {enc : α → List Value} {xs : List α} {i : Nat} {x : α} (h : xs[i]? = some x) : (xs.map enc).take (i + 1) = (xs.map enc).take i ++ [enc x] := by
  rw [List.take_add_one, List.getElem?_map, h]; rfl
/-- May a segment come from a state to another one? -/
def nextOk (s k : Int) : Bool := if k = 1 then decide (s = 0) else if k = 2 then decide (s = 1) else if k = 3 then decide (s = 1) || decide (s = 2) else if k = 4 then decide (s = 3) else false

theorem encP_inj {p q : Int × Int} (h : encP p = encP q) : p = q := by
  simp only [encP, List.cons.injEq, Value.int.injEq, true_and, and_true] at h
  exact Prod.ext h.1 h.2
theorem drop_cons {α : Type} {xs : List α} {i : Nat} {x : α} (h : xs[i]? = some x) : xs.drop i = x :: xs.drop (i + 1) := by
  have hl : i < xs.length := by
    rcases Nat.lt_or_ge i xs.length with h' | h'
    · exact h'
    · rw [List.getElem?_eq_none h'] at h; cases h
  rw [List.drop_eq_getElem_cons hl]
  rw [List.getElem?_eq_getElem hl] at h
  rw [Option.some.inj h]
/-- Two lists, from a place on. -/
theorem eq_from {α : Type} {xs ys : List α} {j : Nat} {x y : α} (hx : xs[j]? = some x) (hy : ys[j]? = some y) : (xs.drop j = ys.drop j) ↔ (x = y ∧ xs.drop (j + 1) = ys.drop (j + 1)) := by
  rw [drop_cons hx, drop_cons hy]; simp

/-! ### Errors -/
/-- An error: none, a sentinel by its variable's number, or one with a place. -/
inductive Er where
  | ok
  | e (g : Nat)
  | at_ (p : Int) (g : Nat)
  deriving DecidableEq
abbrev tErr : Nat := 164
abbrev tAt : Nat := 119
abbrev tAtS : Nat := 121
def sen (bl : Nat → Addr) (g : Nat) : Value := .iface tErr (.pointer (some (bl g)))
/-- What a value of type error is, as far as the sentinels lie at bl. -/
def ErIs (bl : Nat → Addr) (e : Er) (v : Value) (w : World) : Prop := match e with
  | .ok => v = .nilIface
  | .e g => v = sen bl g
  | .at_ p g => ∃ b, v = .iface tAt (.pointer (some ⟨b, 0, none⟩)) ∧ Blk b [.int .i64 p, sen bl g] tAtS w
/-- The sentinels' variables and what they point to. -/
structure Gl (bl : Nat → Addr) (w : World) : Prop where
  cell : ∀ g, g < 19 → w.cell? ⟨g, 0, none⟩ = some (sen bl g)
  blk : ∀ g, g < 19 → ∃ cs T, w.heap[(bl g).block]? = some (.cells cs T (0, 0))
  inj : ∀ g h, g < 19 → h < 19 → bl g = bl h → g = h
theorem ErIs.cases {bl : Nat → Addr} {e : Er} {v : Value} {w : World} (h : ErIs bl e v w) : (e = .ok ∧ v = .nilIface) ∨ (e ≠ .ok ∧ ∃ t u, v = .iface t u) := by
  cases e with
  | ok => exact .inl ⟨rfl, h⟩
  | e g => exact .inr ⟨by simp, _, _, h⟩
  | at_ p g => obtain ⟨b, h, _⟩ := h; exact .inr ⟨by simp, _, _, h⟩
theorem ErIs.one {bl : Nat → Addr} {e : Er} {v : Value} {w : World} (h : ErIs bl e v w) : v.oneCell' = true := by
  cases e with
  | ok => rw [show v = _ from h]; rfl
  | e g => rw [show v = _ from h]; rfl
  | at_ p g => obtain ⟨b, h, _⟩ := h; rw [h]; rfl
abbrev gKind : Nat := 0
abbrev gState : Nat := 1
abbrev gMany : Nat := 2
abbrev gShape : Nat := 3
abbrev gRange : Nat := 4
abbrev gName : Nat := 5

theorem Er_at {M : Nat → Prop} {bl : Nat → Addr} {p : Int} {g : Nat} {v : Value} {w : World} (h : At M w (ErIs bl (.at_ p g) v)) : ∃ b, v = .iface tAt (.pointer (some ⟨b, 0, none⟩)) ∧ At M w (Blk b [.int .i64 p, sen bl g] tAtS) := by
  obtain ⟨b, h1, _⟩ := h.here
  refine ⟨b, h1, fun w' e => ?_⟩
  obtain ⟨b', h2, h3⟩ := h w' e
  rw [h1] at h2
  simp only [Value.iface.injEq, Value.pointer.injEq, Option.some.injEq, Addr.mk.injEq, true_and, and_true] at h2
  subst h2
  exact h3
def encG (bl : Nat → Addr) (g : Nat) : List Value := [sen bl g]
def Er.small : Er → Prop
  | .ok => True
  | .e g => g < 19
  | .at_ _ g => g < 19
theorem idx_at {xs : List Nat} {g : Nat} : ∀ {j : Nat}, xs[j]? = some g → g ∉ xs.take j → xs.idxOf g = j := by
  induction xs with
  | nil => intro j h; simp at h
  | cons a xs ih =>
    intro j h hn
    cases j with
    | zero => simp at h; subst h; simp
    | succ j =>
      simp only [List.take_succ_cons, List.mem_cons, not_or] at hn
      have := ih (j := j) (by simpa using h) hn.2
      have hb : (a == g) = false := by simpa using fun e : a = g => hn.1 e.symm
      rw [List.idxOf_cons, hb, cond_false, this]

/-! ### Manifests -/
def rightP (p : Int × Int) : Bool := decide (0 ≤ p.1) && decide (p.1 ≤ 1073741824) && decide (0 ≤ p.2) && decide (p.2 ≤ 1099511627776)
def incr : List (Int × Int) → Bool
  | a :: b :: r => decide (a.1 < b.1) && decide (a.2 < b.2) && incr (b :: r)
  | _ => true
def epochErr (l : List (Int × Int)) : Er := if 256 < l.length then .e gMany else if l.any (fun p => !rightP p) then .e gRange else if incr l then .ok else .e gShape
def okc (c : UInt8) : Bool := (decide (97 ≤ c.toNat) && decide (c.toNat ≤ 122)) || (decide (48 ≤ c.toNat) && decide (c.toNat ≤ 57)) || decide (c.toNat = 46) || decide (c.toNat = 45) || decide (c.toNat = 95)
def validName (s : ByteArray) : Bool := decide (1 ≤ s.size) && decide (s.size ≤ 64) && s.data.toList.all okc
def objsBad (i : Int) : List Obj → Er
  | [] => .ok
  | o :: r => if validName o.name then (if o.len < 0 ∨ 1073741824 < o.len then .at_ i gRange else objsBad (i + 1) r) else .at_ i gName
/-- Is an object's name one of those ahead of it? -/
def dupFrom (done : List Obj) : List Obj → Bool
  | [] => false
  | o :: r => done.any (fun x => decide (x.name = o.name)) || dupFrom (done ++ [o]) r
def objsErr (l : List Obj) : Er := if l.length < 1 ∨ 8 < l.length then .e gMany else match objsBad 0 l with
  | .ok => if dupFrom [] l then .e gShape else .ok
  | x => x
def right (n : Int) : Bool := decide (0 ≤ n) && decide (n ≤ 1099511627776)
def maniErr (m : Mani) : Er :=
  if m.id < 0 ∨ 2147483647 < m.id ∨ right m.base = false ∨ right m.end_ = false ∨ m.time < -1099511627776 ∨ 1099511627776 < m.time ∨ m.end_ ≤ m.base then .e gRange else
  match epochErr m.epochs with
  | .ok => if m.epochs = [] ∨ (m.epochs.head?.map (·.2)) ≠ some m.base ∨ ¬ ((m.epochs.getLast?.map (·.2)).getD 0 < m.end_) then .e gShape else objsErr m.objects
  | x => x

/-- A manifest's cells. -/
def Mrd (m : Mani) (cs : List Value) (w : World) : Prop := ∃ ea en ec oa on oc, cs = [.int .i64 m.id, .int .i64 m.base, .int .i64 m.end_, .int .i64 m.time, .slice ea en ec, .slice oa on oc] ∧
  m.epochs.length ≤ 1048576 ∧ m.objects.length ≤ 1048576 ∧ Sl 2 (m.epochs.map encP) ea en ec w ∧ Sl 3 (m.objects.map encO) oa on oc w
theorem Mrd.open {M : Nat → Prop} {m : Mani} {cs : List Value} {w : World} (h : At M w (Mrd m cs)) : ∃ ea en ec oa on oc, cs = [.int .i64 m.id, .int .i64 m.base, .int .i64 m.end_, .int .i64 m.time, .slice ea en ec, .slice oa on oc] ∧
    en ≤ 1048576 ∧ on ≤ 1048576 ∧ At M w (Sl 2 (m.epochs.map encP) ea en ec) ∧ At M w (Sl 3 (m.objects.map encO) oa on oc) := by
  obtain ⟨ea, en, ec, oa, on, oc, h1, h2, h3, h4, h5⟩ := h.here
  have e1 := h4.len; have e2 := h5.len
  rw [List.length_map] at e1 e2
  refine ⟨ea, en, ec, oa, on, oc, h1, by omega, by omega, fun w' e => ?_, fun w' e => ?_⟩
  · obtain ⟨ea', en', ec', oa', on', oc', h1', _, _, h4', _⟩ := h w' e
    rw [h1] at h1'
    simp only [List.cons.injEq, Value.slice.injEq, true_and, and_true] at h1'
    obtain ⟨⟨rfl, rfl, rfl⟩, _⟩ := h1'
    exact h4'
  · obtain ⟨ea', en', ec', oa', on', oc', h1', _, _, _, h5'⟩ := h w' e
    rw [h1] at h1'
    simp only [List.cons.injEq, Value.slice.injEq, true_and, and_true] at h1'
    obtain ⟨_, rfl, rfl, rfl⟩ := h1'
    exact h5'
theorem Mrd.mk {M : Nat → Prop} {m : Mani} {w : World} {ea oa : Option Addr} {en ec on oc : Nat} (h1 : At M w (Sl 2 (m.epochs.map encP) ea en ec)) (h2 : At M w (Sl 3 (m.objects.map encO) oa on oc)) (he : en ≤ 1048576) (ho : on ≤ 1048576) :
    At M w (Mrd m [.int .i64 m.id, .int .i64 m.base, .int .i64 m.end_, .int .i64 m.time, .slice ea en ec, .slice oa on oc]) := fun w' e =>
  ⟨ea, en, ec, oa, on, oc, rfl, by have := (h1 w' e).len; rw [List.length_map] at this; omega, by have := (h2 w' e).len; rw [List.length_map] at this; omega, h1 w' e, h2 w' e⟩
end Go.Proofs.YtnkafkikjcgogaaDoor
