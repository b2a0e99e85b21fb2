/- The model of a view, and how it lies in memory. -/
import Derived.Test.YtnkafkikjcgogaaDoorSxf
import Derived.Test.YtnkafkikjcgogaaDoorMod
namespace Go.Proofs.YtnkafkikjcgogaaDoor
open Go.Sx

abbrev tItem : Nat := 64
abbrev tView : Nat := 55
/-- Two lists, element by element. -/
def All2 {α β : Type} (R : α → β → Prop) : List α → List β → Prop
  | [], [] => True
  | a :: x, b :: y => R a b ∧ All2 R x y
  | _, _ => False
theorem All2.imp {α β : Type} {R S : α → β → Prop} (h : ∀ a b, R a b → S a b) : ∀ {x : List α} {y : List β}, All2 R x y → All2 S x y
  | [], [], _ => trivial
  | _ :: _, _ :: _, h' => ⟨h _ _ h'.1, All2.imp h h'.2⟩
  | [], _ :: _, h' => h'.elim
  | _ :: _, [], h' => h'.elim
theorem All2.len {α β : Type} {R : α → β → Prop} : ∀ {x : List α} {y : List β}, All2 R x y → x.length = y.length
  | [], [], _ => rfl
  | _ :: _, _ :: _, h => by simp [All2.len h.2]
  | [], _ :: _, h => h.elim
  | _ :: _, [], h => h.elim
theorem All2.perm {α β : Type} {R : α → β → Prop} {x x' : List α} (p : x.Perm x') : ∀ {y : List β}, All2 R x y → ∃ y', y.Perm y' ∧ All2 R x' y' := by
  induction p with
  | nil => intro y h; exact ⟨y, List.Perm.refl _, h⟩
  | cons a _ ih =>
    intro y h
    cases y with
    | nil => exact h.elim
    | cons b y =>
      obtain ⟨y', h1, h2⟩ := ih h.2
      exact ⟨b :: y', h1.cons b, h.1, h2⟩
  | swap a b l =>
    intro y h
    match y, h with
    | c :: d :: y, h => exact ⟨d :: c :: y, List.Perm.swap d c y, h.2.1, h.1, h.2.2⟩
    | [_], h => exact h.2.elim
    | [], h => exact h.elim
  | trans _ _ ih1 ih2 =>
    intro y h
    obtain ⟨y1, h1, h2⟩ := ih1 h
    obtain ⟨y2, h3, h4⟩ := ih2 h2
    exact ⟨y2, h1.trans h3, h4⟩
theorem All2.snoc {α β : Type} {R : α → β → Prop} {a : α} {b : β} (hab : R a b) : ∀ {x : List α} {y : List β}, All2 R x y → All2 R (x ++ [a]) (y ++ [b])
  | [], [], _ => ⟨hab, trivial⟩
  | _ :: _, _ :: _, h => ⟨h.1, All2.snoc hab h.2⟩
  | [], _ :: _, h => h.elim
  | _ :: _, [], h => h.elim

/-- An entry of the view's map, and the segment that it stands for. -/
def RV (M : Nat → Prop) (w : World) (p : Int × Value) (q : Int × Mani) : Prop := p.1 = q.2.id ∧ ∃ cs, p.2 = .agg (List.toArray (.int .i64 q.1 :: cs)) ∧ At M w (Mrd q.2 cs)
theorem RV.on {M : Nat → Prop} {w w' : World} {p : Int × Value} {q : Int × Mani} (h : RV M w p q) (e : Evo M w w') : RV M w' p q := ⟨h.1, h.2.choose, h.2.choose_spec.1, h.2.choose_spec.2.on e⟩
theorem next2 {M : Nat → Prop} {w : World} {left left' : List (Int × Value)} {k : Int} {v : Value} {lq : List (Int × Mani)} (h : All2 (RV M w) left lq) (hp : left.Perm ((k, v) :: left')) :
    ∃ q lq', lq.Perm (q :: lq') ∧ (k = q.2.id ∧ ∃ cs, v = .agg (List.toArray (.int .i64 q.1 :: cs)) ∧ At M w (Mrd q.2 cs)) ∧ All2 (RV M w) left' lq' := by
  obtain ⟨y, h1, h2⟩ := h.perm hp
  cases y with
  | nil => exact h2.elim
  | cons q lq' => exact ⟨q, lq', h1, h2.1, h2.2⟩

def vlook : List (Int × Mani) → Int → Option (Int × Mani)
  | [], _ => none
  | q :: r, k => if q.2.id = k then some q else vlook r k
def vupd : List (Int × Mani) → (Int × Mani) → List (Int × Mani)
  | [], x => [x]
  | q :: r, x => if q.2.id = x.2.id then x :: r else q :: vupd r x
def stateOf (l : List (Int × Mani)) (k : Int) : Int := ((vlook l k).map (·.1)).getD 0
theorem vasc {M : Nat → Prop} {w : World} (k : Int) : ∀ {L : List (Int × Value)} {l : List (Int × Mani)}, All2 (RV M w) L l →
    (vlook l k = none ∧ asc L k = none) ∨ ∃ q cs, vlook l k = some q ∧ asc L k = some (.agg (List.toArray (.int .i64 q.1 :: cs))) ∧ At M w (Mrd q.2 cs)
  | [], [], _ => .inl ⟨rfl, rfl⟩
  | p :: L, q :: l, h => by
    obtain ⟨⟨h1, cs, h2, h3⟩, h⟩ := h
    by_cases hk : q.2.id = k
    · exact .inr ⟨q, cs, by simp [vlook, hk], by simp [asc, h1, hk, h2], h3⟩
    · rcases vasc k h with ⟨h4, h5⟩ | ⟨q', cs', h4, h5, h6⟩
      · exact .inl ⟨by simp [vlook, hk, h4], by simp [asc, h1, hk, h5]⟩
      · exact .inr ⟨q', cs', by simp [vlook, hk, h4], by simp [asc, h1, hk, h5], h6⟩
  | [], _ :: _, h => h.elim
  | _ :: _, [], h => h.elim
theorem vupd_all {M : Nat → Prop} {w : World} {x : Int × Mani} {v : Value} (hx : RV M w (x.2.id, v) x) : ∀ {L : List (Int × Value)} {l : List (Int × Mani)}, All2 (RV M w) L l → All2 (RV M w) (upd L x.2.id v) (vupd l x)
  | [], [], _ => ⟨hx, trivial⟩
  | p :: L, q :: l, h => by
    obtain ⟨h0, h⟩ := h
    by_cases hk : q.2.id = x.2.id
    · simp only [upd, vupd, h0.1, if_pos hk]; exact ⟨hx, h⟩
    · simp only [upd, vupd, h0.1, if_neg hk]; exact ⟨h0, vupd_all hx h⟩
  | [], _ :: _, h => h.elim
  | _ :: _, [], h => h.elim
theorem vupd_mem {x : Int × Mani} : ∀ {l : List (Int × Mani)} {q : Int × Mani}, q ∈ vupd l x → q = x ∨ q ∈ l
  | [], q, h => by simpa [vupd] using h
  | a :: r, q, h => by
    simp only [vupd] at h
    split at h
    · rcases List.mem_cons.1 h with h | h
      · exact .inl h
      · exact .inr (by simp [h])
    · rcases List.mem_cons.1 h with h | h
      · exact .inr (by simp [h])
      · rcases vupd_mem h with h | h
        · exact .inl h
        · exact .inr (by simp [h])

/-- A view in memory: v points to block bv, its map is block bm; M: what may be turned, bm among it. -/
structure Vw (M : Nat → Prop) (bv bm : Nat) (l : List (Int × Mani)) (w : World) : Prop where
  inM : M bm
  blk : At M w (Blk bv [.map (some bm)] tView)
  ids : ∀ q ∈ l, 0 ≤ q.2.id ∧ q.2.id ≤ 2147483647
  map : ∃ L, MapB bm L w ∧ All2 (RV M w) L l
theorem Vw.on {M X : Nat → Prop} {bv bm : Nat} {l : List (Int × Mani)} {w w' : World} (h : Vw M bv bm l w) (e : Evo X w w') (hX : ¬ X bm) (hXM : ∀ x, x < w.heap.size → X x → M x) : Vw M bv bm l w' := by
  obtain ⟨L, h1, h2⟩ := h.map
  exact ⟨h.inM, h.blk.on (e.to hXM), h.ids, L, h1.on e hX, h2.imp fun a b hab => hab.on (e.to hXM)⟩
theorem Vw.no {M : Nat → Prop} {bv bm : Nat} {l : List (Int × Mani)} {w w' : World} (h : Vw M bv bm l w) (e : Evo No w w') : Vw M bv bm l w' := h.on e id fun _ _ hx => hx.elim

theorem Vw.to {M N : Nat → Prop} {bv bm : Nat} {l : List (Int × Mani)} {w : World} (h : Vw M bv bm l w) (hN : ∀ x, N x → M x) (hb : N bm) : Vw N bv bm l w := by
  obtain ⟨L, h1, h2⟩ := h.map
  exact ⟨hb, h.blk.to fun x _ hx => hN x hx, h.ids, L, h1, h2.imp fun a b hab => ⟨hab.1, hab.2.choose, hab.2.choose_spec.1, hab.2.choose_spec.2.to fun x _ hx => hN x hx⟩⟩
theorem Vw.lt {M : Nat → Prop} {bv bm : Nat} {l : List (Int × Mani)} {w : World} (h : Vw M bv bm l w) : bm < w.heap.size := by
  obtain ⟨L, h1, _⟩ := h.map; exact h1.lt
theorem Vw.grow {M : Nat → Prop} {bv bm b : Nat} {l : List (Int × Mani)} {w w' : World} (h : Vw M bv bm l w) (s : Evo No w w') (hb : w.heap.size ≤ b) : Vw (Plus M b) bv bm l w' := by
  obtain ⟨L, h1, h2⟩ := h.map
  exact ⟨.inl h.inM, h.blk.up s.no (Plus.sub hb), h.ids, L, h1.no s, h2.imp fun a b hab => ⟨hab.1, hab.2.choose, hab.2.choose_spec.1, hab.2.choose_spec.2.up s.no (Plus.sub hb)⟩⟩

def nmax (l : List (Int × Mani)) (x : Int) : Int := l.foldl (fun a q => if a < q.2.id + 1 then q.2.id + 1 else a) x
theorem nmax_perm {l l' : List (Int × Mani)} (p : l.Perm l') : ∀ x, nmax l x = nmax l' x := by
  induction p with
  | nil => intro x; rfl
  | cons a _ ih => intro x; exact ih _
  | swap a b l =>
    intro x
    show nmax l _ = nmax l _
    congr 1
    dsimp only
    repeat' split
    all_goals omega
  | trans _ _ h1 h2 => intro x; rw [h1, h2]
theorem any_perm {α : Type} {f : α → Bool} {l l' : List α} (p : l.Perm l') : l.any f = l'.any f := by
  induction p with
  | nil => rfl
  | cons a _ ih => simp [ih]
  | swap a b l => simp only [List.any_cons]; cases f a <;> cases f b <;> rfl
  | trans _ _ h1 h2 => rw [h1, h2]
def nextOf (l : List (Int × Mani)) : Int := if 2147483647 < nmax l 0 then 2147483647 else nmax l 0
/-- Does a segment that is Started or Finished have an object of this name? -/
def hitQ (s : ByteArray) (q : Int × Mani) : Bool := (decide (q.1 = 1) || decide (q.1 = 2)) && q.2.objects.any fun o => decide (o.name = s)
def refersOf (l : List (Int × Mani)) (s : ByteArray) : Bool := l.any (hitQ s)
/-- What Apply says, and what the view is then. -/
def applyErr (l : List (Int × Mani)) (k : Int) (m : Mani) : Er :=
  match maniErr m with
  | .ok => if k < 1 ∨ 4 < k then .e gKind else if nextOk (stateOf l m.id) k = false then .e gState else
    match vlook l m.id with
    | none => if 4096 ≤ l.length then .e gMany else .ok
    | some q => if q.2 = m then .ok else .e gShape
  | x => x
theorem maniErr_id {m : Mani} (h : maniErr m = .ok) : 0 ≤ m.id ∧ m.id ≤ 2147483647 := by
  unfold maniErr at h
  split at h
  · cases h
  · omega
def applyV (l : List (Int × Mani)) (k : Int) (m : Mani) : List (Int × Mani) := if applyErr l k m = .ok then vupd l (k, m) else l
end Go.Proofs.YtnkafkikjcgogaaDoor
