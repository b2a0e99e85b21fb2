/- The engine's ground: worlds that grow (Evo), facts that stay (At), frames as lists (Env), and one form for all regions (SQ). No program in sight. -/
import Derived.OrdersHeld
import Derived.Deep.RegionHeld3
import Derived.Below
import Derived.WalkKit
namespace Go.Sx
open Go.RowKit

/-! ### Worlds -/
/-- What is kept of the draws: here nothing; in the engine's second copy (namespace Go.Sy) how many there were. -/
def drw (w : World) : Nat := 0
theorem drw_drew (w : World) : drw w ≤ drw w.drew := by unfold drw; first | exact Nat.le_refl _ | exact Nat.le_succ _
/-- Nothing. -/
def No : Nat → Prop := fun _ => False
/-- Of the blocks that were there only those of M may have been turned. -/
structure Evo (M : Nat → Prop) (w w' : World) : Prop where
  os : w'.os = w.os
  tape : w'.tape = w.tape
  output : w'.output = w.output
  size : w.heap.size ≤ w'.heap.size
  drawn : drw w ≤ drw w'
  block : ∀ b, b < w.heap.size → ¬ M b → w'.heap[b]? = w.heap[b]?

theorem Evo.refl (M : Nat → Prop) (w : World) : Evo M w w := ⟨rfl, rfl, rfl, Nat.le_refl _, Nat.le_refl _, fun _ _ _ => rfl⟩
theorem Evo.trans {M : Nat → Prop} {a b c : World} (h : Evo M a b) (k : Evo M b c) : Evo M a c :=
  ⟨k.os.trans h.os, k.tape.trans h.tape, k.output.trans h.output, Nat.le_trans h.size k.size, Nat.le_trans h.drawn k.drawn,
    fun i hi hm => (k.block i (Nat.lt_of_lt_of_le hi h.size) hm).trans (h.block i hi hm)⟩
/-- More may be turned. -/
theorem Evo.to {X M : Nat → Prop} {a b : World} (h : Evo X a b) (hX : ∀ x, x < a.heap.size → X x → M x) : Evo M a b :=
  ⟨h.os, h.tape, h.output, h.size, h.drawn, fun i hi hm => h.block i hi fun hx => hm (hX i hi hx)⟩
theorem Evo.no {M : Nat → Prop} {a b : World} (h : Evo No a b) : Evo M a b := h.to fun _ _ hx => hx.elim
/-- What is turned wasn't there at the beginning. -/
theorem Evo.fstep {M X : Nat → Prop} {a b c : World} (h : Evo M a b) (k : Evo X b c) (hX : ∀ x, x < a.heap.size → X x → M x) : Evo M a c :=
  ⟨k.os.trans h.os, k.tape.trans h.tape, k.output.trans h.output, Nat.le_trans h.size k.size, Nat.le_trans h.drawn k.drawn,
    fun i hi hm => (k.block i (Nat.lt_of_lt_of_le hi h.size) fun hx => hm (hX i hi hx)).trans (h.block i hi hm)⟩
theorem Evo.fresh {M : Nat → Prop} {a b c : World} {n : Nat} (h : Evo M a b) (k : Evo (· = n) b c) (hn : a.heap.size ≤ n) : Evo M a c :=
  h.fstep k fun x hx e => absurd hn (by subst e; omega)
theorem Evo.alloc (w : World) (o : Obj) : Evo No w (w.alloc o) :=
  ⟨rfl, rfl, rfl, by simp, Nat.le_refl _, fun b hb _ => Below.heap_alloc w o b hb⟩
theorem Evo.drew {M : Nat → Prop} {a b : World} (h : Evo M a b) : Evo M a b.drew := ⟨h.os, h.tape, h.output, h.size, Nat.le_trans h.drawn (drw_drew b), h.block⟩
theorem Evo.below {w w' : World} (h : Evo No w w') : Below w.heap.size w w' := ⟨h.os, h.tape, h.output, h.size, fun b hb => h.block b hb id⟩
theorem Evo.lt {M : Nat → Prop} {a b : World} (h : Evo M a b) {n : Nat} (hn : n < a.heap.size) : n < b.heap.size := Nat.lt_of_lt_of_le hn h.size

/-- A fact that stays, whatever happens to the blocks of M, and whatever is made. -/
def At (M : Nat → Prop) (w : World) (φ : World → Prop) : Prop := ∀ w', Evo M w w' → φ w'
theorem At.here {M : Nat → Prop} {w : World} {φ : World → Prop} (h : At M w φ) : φ w := h w (Evo.refl M w)
theorem At.on {M : Nat → Prop} {w w' : World} {φ : World → Prop} (h : At M w φ) (e : Evo M w w') : At M w' φ := fun w'' e' => h w'' (e.trans e')
theorem At.imp {M : Nat → Prop} {w : World} {φ ψ : World → Prop} (h : At M w φ) (k : ∀ w', Evo M w w' → φ w' → ψ w') : At M w ψ := fun w' e => k w' e (h w' e)
theorem At.to {M N : Nat → Prop} {w : World} {φ : World → Prop} (h : At M w φ) (hN : ∀ x, x < w.heap.size → N x → M x) : At N w φ := fun w' e => h w' (e.to hN)
theorem At.and {M : Nat → Prop} {w : World} {φ ψ : World → Prop} (h : At M w φ) (k : At M w ψ) : At M w (fun w => φ w ∧ ψ w) := fun w' e => ⟨h w' e, k w' e⟩

theorem At.now {M : Nat → Prop} {w w' : World} {φ : World → Prop} (h : At M w φ) (e : Evo M w w') : φ w' := h w' e
theorem At.via {M C : Nat → Prop} {wj wr : World} {φ : World → Prop} (h : At M wj φ) (e : Evo M wj wr) (hC : ∀ x, x < wj.heap.size → C x → M x) : ∀ w', Evo C wr w' → φ w' := fun w' e' => h w' (e.fstep e' hC)

/-- All that may be turned is there. -/
def Old (M : Nat → Prop) (w : World) : Prop := ∀ x, M x → x < w.heap.size
theorem Old.on {M X : Nat → Prop} {w w' : World} (h : Old M w) (e : Evo X w w') : Old M w' := fun x hx => Nat.lt_of_lt_of_le (h x hx) e.size
theorem Old.no (w : World) : Old No w := fun _ h => h.elim
/-- One block more may be turned. -/
def Plus (M : Nat → Prop) (b : Nat) : Nat → Prop := fun x => M x ∨ x = b
theorem Old.plus {M : Nat → Prop} {w : World} {b : Nat} (h : Old M w) (hb : b < w.heap.size) : Old (Plus M b) w := fun x hx => hx.elim (h x) (fun e => by subst e; exact hb)
theorem Plus.sub {M : Nat → Prop} {b m : Nat} (h : m ≤ b) : ∀ x, x < m → Plus M b x → M x := fun x hx hp => hp.elim id fun e => absurd h (by omega)
theorem notM {M : Nat → Prop} {w : World} {b : Nat} (hM : Old M w) (hn : w.heap.size ≤ b) : ¬ M b := fun h => absurd (hM b h) (by omega)
theorem Plus.in {M : Nat → Prop} {b : Nat} : Plus M b b := .inr rfl
theorem Plus.old {M : Nat → Prop} {b x : Nat} (h : M x) : Plus M b x := .inl h

/-- A block known whole. -/
def Blk (b : Nat) (cs : List Value) (T : TypeId) (w : World) : Prop := w.heap[b]? = some (.cells cs.toArray T (0, 0))
theorem Blk.lt {b : Nat} {cs : List Value} {T : TypeId} {w : World} (h : Blk b cs T w) : b < w.heap.size := (Array.getElem?_eq_some_iff.1 h).1
theorem Blk.on {b : Nat} {cs : List Value} {T : TypeId} {X : Nat → Prop} {w w' : World} (h : Blk b cs T w) (e : Evo X w w') (hX : ¬ X b) : Blk b cs T w' := (e.block b h.lt hX).trans h
theorem Blk.no {b : Nat} {cs : List Value} {T : TypeId} {w w' : World} (h : Blk b cs T w) (e : Evo No w w') : Blk b cs T w' := h.on e id
theorem Blk.at_ {b : Nat} {cs : List Value} {T : TypeId} {M : Nat → Prop} {w : World} (h : Blk b cs T w) (hM : ¬ M b) : At M w (Blk b cs T) := fun _ e => h.on e hM
theorem Blk.new (w : World) (cs : List Value) (T : TypeId) : Blk w.heap.size cs T (w.alloc (.cells cs.toArray T)) := by
  unfold Blk World.alloc
  simp
theorem Blk.newAt {M : Nat → Prop} {w : World} (hM : Old M w) (cs : List Value) (T : TypeId) : At M (w.alloc (.cells cs.toArray T)) (Blk w.heap.size cs T) :=
  (Blk.new w cs T).at_ fun h => absurd (hM _ h) (Nat.lt_irrefl _)
theorem Blk.cell {b : Nat} {cs : List Value} {T : TypeId} {w : World} (h : Blk b cs T w) (i : Nat) : w.cell? ⟨b, i, none⟩ = cs[i]? := by
  unfold Blk at h
  simp [World.cell?, h]
theorem Blk.free {b : Nat} {cs : List Value} {T : TypeId} {w : World} (h : Blk b cs T w) (i : Nat) : w.frozen? ⟨b, i, none⟩ = false := by
  unfold Blk at h
  simp [World.frozen?, h]

/-- A row of cells in memory. -/
def Cells (b off : Nat) (vs : List Value) (w : World) : Prop := ∀ j v, vs[j]? = some v → w.cell? ⟨b, off + j, none⟩ = some v
theorem Blk.cells {b : Nat} {cs : List Value} {T : TypeId} {w : World} (h : Blk b cs T w) : Cells b 0 cs w := fun j v hj => by rw [h.cell]; simpa using hj

/-! ### Frames -/
abbrev Env := List (Nat × Value)
def Env.get : Env → Nat → Value
  | [], _ => undef
  | (k, v) :: r, i => bif Nat.beq k i then v else Env.get r i
def Env.look (n : Nat) (F : Env) (i : Nat) : Value := bif Nat.blt i n then F.get i else undef
def Env.act (n : Nat) (F : Env) : Act := { tmps := ((List.range n).map F.get).toArray, defers := [] }
def ev (n : Nat) (F : Env) : Operand → Value
  | .tmp t => F.look n t
  | .const v => v
  | .global g => .pointer (some ⟨g, 0, none⟩)
  | .func f => .func (.func f) #[] #[]
def putE (d : Option Tmp) (v : Value) (F : Env) : Env := match d with | some d => (d, v) :: F | none => F

theorem Env.getD_act (n : Nat) (F : Env) (i : Nat) : (Env.act n F).tmps.getD i undef = F.look n i := by
  unfold Env.act Env.look
  by_cases h : i < n
  · have : Nat.blt i n = true := by simpa [Nat.blt_eq] using h
    simp [h, this]
  · have : Nat.blt i n = false := by
      cases hb : Nat.blt i n with
      | false => rfl
      | true => exact absurd (by simpa [Nat.blt_eq] using hb) h
    simp [h, this]
theorem Env.eval_act (n : Nat) (F : Env) : (Env.act n F).eval = ev n F := by
  funext x
  cases x <;> simp only [Act.eval, ev]
  exact Env.getD_act n F _
theorem Env.put_act (n : Nat) (F : Env) (d : Option Tmp) (v : Value) : (Env.act n F).put d v = Env.act n (putE d v F) := by
  cases d with
  | none => rfl
  | some d =>
    unfold Act.put Env.act putE
    simp only [Act.mk.injEq, and_true]
    apply Array.ext
    · simp
    · intro i h1 h2
      simp at h1 h2
      by_cases hd : d = i
      · subst hd
        simp [Env.get]
      · have : Nat.beq d i = false := by
          cases hb : Nat.beq d i with
          | false => rfl
          | true => exact absurd (Nat.eq_of_beq_eq_true hb) hd
        simp [Env.get, hd, this]
/-- What an earlier operation yielded, for a guard. -/
def gd (ops : Array Oper) (n : Nat) (F : Env) : Option (Nat × Bool) → Bool
  | none => true
  | some (j, want) => match (ops[j]?).bind (·.dst) with
    | some d => match F.look n d with
      | .bool b => b == want
      | _ => false
    | none => false
theorem gd_wanted (ops : Array Oper) (n : Nat) (F : Env) (o : Oper) : Region.wanted o (yielded ops (Env.act n F).tmps) = gd ops n F o.guard := by
  unfold Region.wanted gd yielded
  cases hg : o.guard with
  | none => rfl
  | some p =>
    obtain ⟨j, want⟩ := p
    simp only
    cases hd : (ops[j]?).bind (·.dst) with
    | none => simp
    | some d =>
      simp only [Option.bind_some]
      have h := Env.getD_act n F d
      by_cases hlt : d < n
      · have h2 : (Env.act n F).tmps[d]? = some (F.look n d) := by
          rw [← h]
          have : d < (Env.act n F).tmps.size := by simpa [Env.act] using hlt
          simp [this]
        rw [h2]
        cases F.look n d <;> simp
      · have h2 : (Env.act n F).tmps[d]? = none := by simp [Env.act]; exact Nat.le_of_not_lt hlt
        have h3 : F.look n d = undef := by
          have : Nat.blt d n = false := by
            cases hb : Nat.blt d n with
            | false => rfl
            | true => exact absurd (by simpa [Nat.blt_eq] using hb) hlt
          simp [Env.look, this]
        rw [h2, h3]
        simp [undef]

/-! ### Regions: a tree of operations in orders in which they may be carried out; 'q': it only yields, 'l': it may do more -/
inductive Tr where
  | nil
  | q (o : Oper) (t : Tr)
  | l (o : Oper) (t : Tr)
  | fork (a b : Tr)
def Tr.ofList : List Bool → List Oper → Tr
  | _, [] => .nil
  | [], o :: r => .l o (Tr.ofList [] r)
  | true :: qs, o :: r => .q o (Tr.ofList qs r)
  | false :: qs, o :: r => .l o (Tr.ofList qs r)

section
variable {P : Program} {ops : Array Oper} {S : World → Prop} {n : Nat}

/-- What a step's other ways out owe: there are none. -/
def Nil : Exit → Act → World → Prop := fun _ _ _ => False

def SQ (P : Program) (ops : Array Oper) (S : World → Prop) (n : Nat) (K : Env → World → Prop) : Tr → Env → World → Prop
  | .nil, F, w => K F w
  | .q o r, F, w =>
    if gd ops n F o.guard = true then ∃ v, (∀ w', S w' → (execOp (ev n F) o).run P w' = .ok (.value v) w') ∧ SQ P ops S n K r (putE o.dst v F) w
    else SQ P ops S n K r (putE o.dst undef F) w
  | .l o r, F, w =>
    if gd ops n F o.guard = true then ∀ K' : Act → World → Prop, (∀ F' w', S w' → SQ P ops S n K r F' w' → K' (Env.act n F') w') → o.wp P (Env.act n F) w K' Nil
    else SQ P ops S n K r (putE o.dst undef F) w
  | .fork a b, F, w => SQ P ops S n K a F w ∧ SQ P ops S n K b F w

theorem upon_nil {o : Oper} {a : Act} {w : World} {K : Act → World → Prop} {Q : Exit → Act → World → Prop} (h : o.wp P a w K Nil) : o.wp P a w K Q := by
  unfold Oper.wp at *
  generalize (execOp a.eval o).run P w = r at *
  cases r with
  | ok x w' =>
    cases x <;> simp only [Oper.upon] at h ⊢ <;>
      first
        | exact h
        | exact Calls.mono h (fun e w'' he => by cases e <;> first | exact he | exact he.elim | (obtain ⟨_, _, h0⟩ := he; exact h0.elim))
  | halt x w' =>
    cases x <;> simp only [Oper.upon] at h ⊢
    all_goals first | exact h | exact h.elim

/-- A region in the text's order. -/
theorem SQ.list {K : Env → World → Prop} {Q : Exit → Act → World → Prop} (hK : ∀ F w, K F w → Q .normal (Env.act n F) w) : ∀ (l : List Oper) (qs : List Bool) (F : Env) (w : World), S w →
    SQ P ops S n K (Tr.ofList qs l) F w → wpList P ops Q l (Env.act n F) w
  | [], _, F, w, _, h => hK F w (by simpa [Tr.ofList, SQ] using h)
  | o :: r, qs, F, w, he, h => by
    have loud : ∀ qs', SQ P ops S n K (.l o (Tr.ofList qs' r)) F w → wpList P ops Q (o :: r) (Env.act n F) w := fun qs' h => by
      simp only [wpList, gd_wanted]
      unfold SQ at h
      split
      · rename_i hg
        rw [if_pos hg] at h
        exact .inl (upon_nil (h _ fun F' w' he' h' => SQ.list hK r qs' _ w' he' h'))
      · rename_i hg
        rw [if_neg hg] at h
        rw [Env.put_act]
        exact SQ.list hK r qs' _ w he h
    have quiet : ∀ qs', SQ P ops S n K (.q o (Tr.ofList qs' r)) F w → wpList P ops Q (o :: r) (Env.act n F) w := fun qs' h => by
      simp only [wpList, gd_wanted]
      unfold SQ at h
      split
      · rename_i hg
        rw [if_pos hg] at h
        obtain ⟨v, hv, h⟩ := h
        refine .inl ?_
        unfold Oper.wp
        rw [Env.eval_act, hv w he]
        simp only [Oper.upon, Env.put_act]
        exact SQ.list hK r qs' _ w he h
      · rename_i hg
        rw [if_neg hg] at h
        rw [Env.put_act]
        exact SQ.list hK r qs' _ w he h
    cases qs with
    | nil => exact loud _ h
    | cons q qs => cases q with
      | true => exact quiet _ h
      | false => exact loud _ h

/-- An order, or several of them, by the operations' numbers. -/
inductive Pl where
  | nil
  | q (i : Nat) (p : Pl)
  | l (i : Nat) (p : Pl)
  | fork (a b : Pl)
def Pl.tr (ops : Array Oper) : Pl → Tr
  | .nil => .nil
  | .q i p => match ops[i]? with | some o => .q o (p.tr ops) | none => .nil
  | .l i p => match ops[i]? with | some o => .l o (p.tr ops) | none => .nil
  | .fork a b => .fork (a.tr ops) (b.tr ops)
def Pl.heads : Pl → List Nat
  | .nil => []
  | .q i _ => [i]
  | .l i _ => [i]
  | .fork a b => a.heads ++ b.heads
def Pl.size : Pl → Nat
  | .nil => 0
  | .q _ p => p.size + 1
  | .l _ p => p.size + 1
  | .fork a _ => a.size
/-- May the operations come up so? (A fork's arms all begin loud.) 's': the arm of a fork, whose head has been looked at. -/
def Pl.ok (ops : Array Oper) : Bool → Pl → Array Bool → Bool
  | s, .nil, L => !s && (Region.ready .any ops L).isEmpty
  | s, .q i p, L => !s && (ops[i]?).isSome && (Region.ready .any ops L).contains i && Region.free .any ops L i && p.ok ops false (L.setIfInBounds i true)
  | s, .l i p, L => (s || Region.ready .any ops L == [i]) && (ops[i]?).isSome && p.ok ops false (L.setIfInBounds i true)
  | s, .fork a b, L => (s || Region.ready .any ops L == (Pl.fork a b).heads) && a.ok ops true L && b.ok ops true L && a.size == b.size

def noExit (Q : Exit → Act → World → Prop) : Exit → Act → World → Prop
  | .normal, a, w => Q .normal a w
  | _, _, _ => False

theorem Pl.arm_ne {L : Array Bool} : ∀ {p : Pl}, p.ok ops true L = true → p.heads ≠ [] ∧ p.size ≠ 0
  | .nil, h => by simp [Pl.ok] at h
  | .q _ _, h => by simp [Pl.ok] at h
  | .l _ _, _ => by simp [Pl.heads, Pl.size]
  | .fork a b, h => by
    simp only [Pl.ok, Bool.true_or, Bool.true_and, Bool.and_eq_true] at h
    have := Pl.arm_ne (p := a) h.1.1
    simp only [Pl.heads, Pl.size]
    exact ⟨fun e => this.1 (List.append_eq_nil_iff.1 e).1, this.2⟩

/-- One arm's first step, and what follows. -/
theorem SQ.plan {K : Env → World → Prop} {Q : Exit → Act → World → Prop} (hs : Region.noSelect ops = true) (hK : ∀ F w, K F w → Q .normal (Env.act n F) w) :
    ∀ (p : Pl), (∀ (L : Array Bool) (F : Env) (w : World), p.ok ops false L = true → S w → SQ P ops S n K (p.tr ops) F w → wpAnyH P .any ops (noExit Q) S p.size L (Env.act n F) w) ∧
      (∀ (m : Nat) (L : Array Bool) (F : Env) (w : World), p.size = m + 1 → p.ok ops true L = true → S w → SQ P ops S n K (p.tr ops) F w → ∀ i ∈ p.heads,
        wpOp P ops (noExit Q) i (fun a' w' => S w' ∧ wpAnyH P .any ops (noExit Q) S m (L.setIfInBounds i true) a' w') (Env.act n F) w)
  | .nil => ⟨fun L F w hB he h => by
      simp only [Pl.ok, Bool.not_false, Bool.true_and, List.isEmpty_iff] at hB
      exact ⟨hB, hK F w h⟩, fun m L F w hm hB => by simp [Pl.ok] at hB⟩
  | .q i p => ⟨fun L F w hB he h => by
      simp only [Pl.ok, Bool.not_false, Bool.true_and, Bool.and_eq_true] at hB
      obtain ⟨⟨⟨ho', hr⟩, hf⟩, hB2⟩ := hB
      obtain ⟨o, ho⟩ := Option.isSome_iff_exists.1 ho'
      simp only [Pl.tr, ho] at h
      unfold SQ at h
      have hgo : Region.wanted o (yielded ops (Env.act n F).tmps) = gd ops n F o.guard := gd_wanted ops n F o
      by_cases hg : gd ops n F o.guard = true
      · rw [if_pos hg] at h
        obtain ⟨v, hv, h⟩ := h
        refine wpAnyH_take (v := v) ho hs hf hr (fun _ _ _ h => h) (.inl ⟨hgo.trans hg, fun w' hw' => by rw [Env.eval_act]; exact hv w' hw'⟩) he ?_
        rw [Env.put_act]
        exact (SQ.plan hs hK p).1 _ _ w hB2 he h
      · rw [if_neg hg] at h
        refine wpAnyH_take (v := undef) ho hs hf hr (fun _ _ _ h => h) (.inr ⟨hgo.trans (by simpa using hg), rfl⟩) he ?_
        rw [Env.put_act]
        exact (SQ.plan hs hK p).1 _ _ w hB2 he h, fun m L F w hm hB => by simp [Pl.ok] at hB⟩
  | .l i p => by
      have arm : ∀ (m : Nat) (L : Array Bool) (F : Env) (w : World), (Pl.l i p).size = m + 1 → (Pl.l i p).ok ops true L = true → S w → SQ P ops S n K ((Pl.l i p).tr ops) F w → ∀ j ∈ (Pl.l i p).heads,
          wpOp P ops (noExit Q) j (fun a' w' => S w' ∧ wpAnyH P .any ops (noExit Q) S m (L.setIfInBounds j true) a' w') (Env.act n F) w := fun m L F w hm hB he h j hj => by
        obtain rfl : j = i := by simpa [Pl.heads] using hj
        obtain rfl : p.size = m := by simpa [Pl.size] using hm
        simp only [Pl.ok, Bool.true_or, Bool.true_and, Bool.and_eq_true] at hB
        obtain ⟨ho', hB2⟩ := hB
        obtain ⟨o, ho⟩ := Option.isSome_iff_exists.1 ho'
        simp only [Pl.tr, ho] at h
        unfold SQ at h
        unfold wpOp
        simp only [ho]
        rw [gd_wanted]
        by_cases hg : gd ops n F o.guard = true
        · rw [if_pos hg] at h ⊢
          exact .inl (upon_nil (h _ fun F' w' he' h' => ⟨he', (SQ.plan hs hK p).1 _ F' w' hB2 he' h'⟩))
        · rw [if_neg hg] at h ⊢
          rw [Env.put_act]
          exact ⟨he, (SQ.plan hs hK p).1 _ _ w hB2 he h⟩
      refine ⟨fun L F w hB he h => ?_, arm⟩
      have hr : Region.ready .any ops L = [i] := by
        simp only [Pl.ok, Bool.false_or, Bool.and_eq_true, beq_iff_eq] at hB
        exact hB.1.1
      have hB' : (Pl.l i p).ok ops true L = true := by
        simp only [Pl.ok, Bool.false_or, Bool.true_or, Bool.true_and, Bool.and_eq_true] at hB ⊢
        exact ⟨hB.1.2, hB.2⟩
      exact wpAnyH_all hr (by simp) (arm _ L F w rfl hB' he h)
  | .fork a b => by
      have arm : ∀ (m : Nat) (L : Array Bool) (F : Env) (w : World), (Pl.fork a b).size = m + 1 → (Pl.fork a b).ok ops true L = true → S w → SQ P ops S n K ((Pl.fork a b).tr ops) F w → ∀ j ∈ (Pl.fork a b).heads,
          wpOp P ops (noExit Q) j (fun a' w' => S w' ∧ wpAnyH P .any ops (noExit Q) S m (L.setIfInBounds j true) a' w') (Env.act n F) w := fun m L F w hm hB he h j hj => by
        simp only [Pl.ok, Bool.true_or, Bool.true_and, Bool.and_eq_true, beq_iff_eq] at hB
        obtain ⟨⟨hBa, hBb⟩, hsz⟩ := hB
        simp only [Pl.size] at hm
        simp only [Pl.tr, SQ] at h
        simp only [Pl.heads, List.mem_append] at hj
        rcases hj with hj | hj
        · exact (SQ.plan hs hK a).2 m L F w hm hBa he h.1 j hj
        · exact (SQ.plan hs hK b).2 m L F w (hsz ▸ hm) hBb he h.2 j hj
      refine ⟨fun L F w hB he h => ?_, arm⟩
      have hr : Region.ready .any ops L = (Pl.fork a b).heads := by
        simp only [Pl.ok, Bool.false_or, Bool.and_eq_true, beq_iff_eq] at hB
        exact hB.1.1.1
      have hB' : (Pl.fork a b).ok ops true L = true := by
        simp only [Pl.ok, Bool.false_or, Bool.true_or, Bool.true_and, Bool.and_eq_true] at hB ⊢
        exact ⟨⟨hB.1.1.2, hB.1.2⟩, hB.2⟩
      have hne : (Pl.fork a b).heads ≠ [] ∧ (Pl.fork a b).size ≠ 0 := Pl.arm_ne hB'
      obtain ⟨m, hm⟩ := Nat.exists_eq_succ_of_ne_zero hne.2
      rw [hm]
      exact wpAnyH_all hr hne.1 (arm m L F w hm hB' he h)
end

end Go.Sx
