/- The engine's steps: entry and end of a function, the forms of code, and one lemma for each kind of operation. No program in sight. -/
import Derived.Test.YtnkafkikjcgogaaDoorSxa
set_option linter.unusedVariables false
namespace Go.Sx
open Go.RowKit

/-! ### Entry, end, forms of code -/
def Ret (X : Nat → Prop) (w : World) (φ : Value → World → Prop) : Ending → World → Prop
  | .returned v, w' => Evo X w w' ∧ φ v w'
  | _, _ => False

section
variable {P : Program} {n : Nat} {F : Env} {w : World} {Q : Exit → Act → World → Prop}

theorem enter {f : FuncId} {fn : Func} {c : Code} {args : Array Value} {R : Ending → World → Prop} (F : Env) (hf : P.funcs[f]? = some fn) (hb : fn.body = some c)
    (hF : ({ tmps := args ++ Array.replicate (fn.ntmps - args.size) undef, defers := [] } : Act) = Env.act n F)
    (h : c.wp P (bodyPost P fn R) (Env.act n F) w) : Calls P f args w R := calls_of_wp hf hb (hF ▸ h)

theorem thenN {K : Act → World → Prop} {a : Act} (h : K a w) : Exit.then K Q .normal a w := h
theorem thenX {K : Act → World → Prop} {a : Act} {i : Nat} (h : Q (.exit i) a w) : Exit.then K Q (.exit i) a w := h
theorem thenR {K : Act → World → Prop} {a : Act} (h : Q .ret a w) : Exit.then K Q .ret a w := h
theorem blkN {i : Nat} {a : Act} (h : Q .normal a w) : Exit.inBlock i Q .normal a w := h
theorem blkR {i : Nat} {a : Act} (h : Q .ret a w) : Exit.inBlock i Q .ret a w := h
theorem blkX {i : Nat} {a : Act} (h : Q .normal a w) : Exit.inBlock i Q (.exit i) a w := by simpa [Exit.inBlock] using h
theorem blkO {i j : Nat} {a : Act} (hij : (j == i) = false) (h : Q (.exit j) a w) : Exit.inBlock i Q (.exit j) a w := by
  have : j ≠ i := by simpa using hij
  simpa [Exit.inBlock, this] using h
theorem seq {x y : Code} {a : Act} (h : x.wp P (Exit.then (y.wp P Q) Q) a w) : (Code.seq x y).wp P Q a w := wp_seq h
theorem blk {i : Nat} {c : Code} {a : Act} (h : c.wp P (Exit.inBlock i Q) a w) : (Code.block i c).wp P Q a w := wp_block h
theorem cond_t {c : Operand} {x y : Code} (hc : ev n F c = .bool true) (h : x.wp P Q (Env.act n F) w) : (Code.cond c x y).wp P Q (Env.act n F) w :=
  wp_cond_true (by rw [Env.eval_act]; exact hc) h
theorem cond_f {c : Operand} {x y : Code} (hc : ev n F c = .bool false) (h : y.wp P Q (Env.act n F) w) : (Code.cond c x y).wp P Q (Env.act n F) w :=
  wp_cond_false (by rw [Env.eval_act]; exact hc) h
theorem cond_b {c : Operand} {x y : Code} {b : Bool} (hc : ev n F c = .bool b) (ht : b = true → x.wp P Q (Env.act n F) w) (hf : b = false → y.wp P Q (Env.act n F) w) :
    (Code.cond c x y).wp P Q (Env.act n F) w := wp_cond_split (by rw [Env.eval_act]; exact hc) ht hf

/-- More is told to be turned, none of which was there. -/
theorem At.up {M N : Nat → Prop} {w w1 : World} {φ : World → Prop} (h : At M w φ) (e : Evo M w w1) (hN : ∀ x, x < w.heap.size → N x → M x) : At N w1 φ := fun w2 e2 => h w2 (e.fstep e2 hN)

/-- Whatever world. -/
def Any : World → Prop := fun _ => True
/-- The class of worlds is kept by a step that turns X alone. -/
def Keep (S : World → Prop) (X : Nat → Prop) (w : World) : Prop := ∀ w1, Evo X w w1 → S w1
theorem Keep.any {X : Nat → Prop} {w : World} : Keep Any X w := fun _ _ => trivial
theorem Keep.evo {C X : Nat → Prop} {wr w : World} (e : Evo C wr w) (hX : ∀ x, x < wr.heap.size → X x → C x) : Keep (Evo C wr) X w := fun _ s => e.fstep s hX
theorem noX {C : Nat → Prop} {m : Nat} : ∀ x, x < m → No x → C x := fun _ _ h => h.elim
theorem freshX {C : Nat → Prop} {m b : Nat} (h : m ≤ b) : ∀ x, x < m → x = b → C x := fun x hx e => absurd h (by omega)
theorem inX {C : Nat → Prop} {m b : Nat} (h : C b) : ∀ x, x < m → x = b → C x := fun x hx e => e ▸ h

theorem gtt {e : Bool} (h : e = true) : (e == true) = true := by subst h; rfl
theorem gff {e : Bool} (h : e = false) : (e == false) = true := by subst h; rfl
theorem gtf {e : Bool} (h : e = true) : (e == false) = false := by subst h; rfl
theorem gft {e : Bool} (h : e = false) : (e == true) = false := by subst h; rfl
theorem notT {e : Bool} (h : e = false) : (!e) = true := by subst h; rfl
theorem notF {e : Bool} (h : e = true) : (!e) = false := by subst h; rfl
theorem unT {e : Bool} (h : (!e) = true) : e = false := by cases e <;> simp_all
theorem unF {e : Bool} (h : (!e) = false) : e = true := by cases e <;> simp_all
theorem bsplit (e : Bool) : e = true ∨ e = false := by cases e <;> simp
theorem wi64 {x : Int} (h1 : -9223372036854775808 ≤ x) (h2 : x ≤ 9223372036854775807) : IntKind.i64.wrap x = x := by
  simp only [IntKind.wrap, IntKind.signed, IntKind.bits, Bool.true_and]
  by_cases h : x % 2 ^ 64 ≥ 2 ^ (64 - 1)
  · rw [if_pos (by simpa using h)]; omega
  · rw [if_neg (by simpa using h)]; omega
theorem wu8 {x : Int} (h1 : 0 ≤ x) (h2 : x < 256) : IntKind.u8.wrap x = x := by
  simp only [IntKind.wrap, IntKind.signed, IntKind.bits, Bool.false_and, Bool.false_eq_true, if_false]; omega
theorem wu32 {x : Int} (h1 : 0 ≤ x) (h2 : x < 4294967296) : IntKind.u32.wrap x = x := by
  simp only [IntKind.wrap, IntKind.signed, IntKind.bits, Bool.false_and, Bool.false_eq_true, if_false]; omega
theorem wu64 {x : Int} (h1 : 0 ≤ x) (h2 : x < 18446744073709551616) : IntKind.u64.wrap x = x := by
  simp only [IntKind.wrap, IntKind.signed, IntKind.bits, Bool.false_and, Bool.false_eq_true, if_false]; omega
theorem cond_bt {c : Operand} {x y : Code} {b : Bool} (hc : ev n F c = .bool b) (hb : b = true) (h : x.wp P Q (Env.act n F) w) : (Code.cond c x y).wp P Q (Env.act n F) w := cond_t (hb ▸ hc) h
theorem cond_bf {c : Operand} {x y : Code} {b : Bool} (hc : ev n F c = .bool b) (hb : b = false) (h : y.wp P Q (Env.act n F) w) : (Code.cond c x y).wp P Q (Env.act n F) w := cond_f (hb ▸ hc) h

theorem region {id : Nat} {l : List Oper} (qs : List Bool) (h : SQ P l.toArray Any n (fun F w => Q .normal (Env.act n F) w) (Tr.ofList qs l) F w) :
    (Code.region id l.toArray false).wp P Q (Env.act n F) w := wp_region_lit (SQ.list (fun _ _ h => h) l qs F w trivial h)
theorem regionD (C : Nat → Prop) {id : Nat} {ops : Array Oper} (p : Pl) (hm : P.follows .mixedOrders = true) (hs : Region.noSelect ops = true)
    (hok : p.ok ops false (Array.replicate ops.size false) = true) (hsz : p.size = ops.size)
    (h : ∀ w1, Evo No w w1 → SQ P ops (Evo C w) n (fun F w => Q .normal (Env.act n F) w) (p.tr ops) F w1) : (Code.region id ops true).wp P Q (Env.act n F) w := by
  refine wp_mono (Q := noExit Q) (wp_region_held hm (S := Evo C w) ?_) fun e a w h => ?_
  · rw [← hsz] at hok ⊢
    exact (SQ.plan hs (fun _ _ h => h) p).1 _ _ _ hok ((Evo.refl C w).drew) (h w.drew ((Evo.refl No w).drew))
  · cases e <;> first | exact h | exact h.elim

theorem ret1 {fn : Func} {R : Ending → World → Prop} {t : Tmp} (hr : fn.results = #[.tmp t]) (h : R (.returned (F.look n t)) w) : bodyPost P fn R .ret (Env.act n F) w := by
  refine bodyPost_ret (v := F.look n t) ?_ rfl h
  rw [results_tmp hr, Env.getD_act]
theorem ret1v {fn : Func} {R : Ending → World → Prop} {t : Tmp} (v : Value) (hr : fn.results = #[.tmp t]) (hv : F.look n t = v) (h : R (.returned v) w) : bodyPost P fn R .ret (Env.act n F) w := ret1 hr (hv ▸ h)
theorem ret2 {fn : Func} {R : Ending → World → Prop} {t u : Tmp} (hr : fn.results = #[.tmp t, .tmp u]) (h : R (.returned (.tuple #[F.look n t, F.look n u])) w) :
    bodyPost P fn R .ret (Env.act n F) w := by
  refine bodyPost_ret (v := .tuple #[F.look n t, F.look n u]) ?_ rfl h
  rw [results_tmp2 hr, Env.getD_act, Env.getD_act]
theorem ret2v {fn : Func} {R : Ending → World → Prop} {t u : Tmp} (v v' : Value) (hr : fn.results = #[.tmp t, .tmp u]) (hv : F.look n t = v) (hv' : F.look n u = v') (h : R (.returned (.tuple #[v, v'])) w) :
    bodyPost P fn R .ret (Env.act n F) w := ret2 hr (by rw [hv, hv']; exact h)
theorem ret0 {fn : Func} {R : Ending → World → Prop} (hr : fn.results = #[]) (h : R (.returned (.tuple #[])) w) : bodyPost P fn R .ret (Env.act n F) w :=
  bodyPost_ret (v := .tuple #[]) (results_none hr _ _ _) rfl h
theorem end0 {fn : Func} {R : Ending → World → Prop} (hr : fn.results = #[]) (h : R (.returned (.tuple #[])) w) : bodyPost P fn R .normal (Env.act n F) w :=
  bodyPost_end (v := .tuple #[]) (results_none hr _ _ _) rfl h
/-- Any list of results: what running them gives. -/
theorem retRun {fn : Func} {R : Ending → World → Prop} (v : Value) (hr : (results fn (Env.act n F).tmps).run P w = .ok v w) (h : R (.returned v) w) : bodyPost P fn R .ret (Env.act n F) w :=
  bodyPost_ret hr rfl h

/-! ### Cuts: what is known of a frame in whose slots S anything may stand but what R says -/
def Env.put2 (R F : Env) : Env := match R with | [] => F | p :: R => p :: Env.put2 R F
def Env.junk (S : List Nat) (u : Nat → Value) (F : Env) : Env := match S with | [] => F | s :: S => (s, u s) :: Env.junk S u F
def Env.mask (n : Nat) (S : List Nat) (F : Env) : List Value := (List.range n).map fun i => bif S.contains i then undef else F.get i
def Env.has (n : Nat) (R G : Env) : Prop := match R with | [] => True | p :: R => G.look n p.1 = p.2 ∧ Env.has n R G
/-- The frame is F but for the slots S, of which R is known. -/
def Env.near (n : Nat) (F : Env) (S : List Nat) (R : Env) (a : Act) : Prop := ∃ u : Nat → Value, a = Env.act n (Env.put2 R (Env.junk S u F))

theorem Env.get_junk (S : List Nat) (u : Nat → Value) (F : Env) (i : Nat) : (Env.junk S u F).get i = bif S.contains i then u i else F.get i := by
  induction S with
  | nil => rfl
  | cons s S ih =>
    simp only [Env.junk, Env.get, List.contains_cons]
    by_cases h : s = i
    · subst h; simp
    · have h1 : Nat.beq s i = false := by
        cases hb : Nat.beq s i with
        | false => rfl
        | true => exact absurd (Nat.eq_of_beq_eq_true hb) h
      have h2 : (i == s) = false := by simpa using fun e => h e.symm
      simp [h1, h2, ih]
theorem Env.act_congr {n : Nat} {F G : Env} (h : ∀ i, i < n → F.get i = G.get i) : Env.act n F = Env.act n G := by
  unfold Env.act
  simp only [Act.mk.injEq, and_true]
  congr 1
  exact List.map_congr_left fun i hi => h i (List.mem_range.1 hi)
theorem Env.get_put2 (G : Env) (i : Nat) (hi : i < n) : ∀ R : Env, Env.has n R G → (∀ F : Env, F.get i = G.get i → (Env.put2 R F).get i = G.get i)
  | [], _, F, hF => hF
  | p :: R, h, F, hF => by
    obtain ⟨k, v⟩ := p
    obtain ⟨h1, h2⟩ := h
    simp only [Env.put2, Env.get]
    by_cases hk : k = i
    · subst hk
      have : Nat.blt k n = true := by simpa [Nat.blt_eq] using hi
      simp only [Env.look, this, cond_true] at h1
      simp [h1]
    · have : Nat.beq k i = false := by
        cases hb : Nat.beq k i with
        | false => rfl
        | true => exact absurd (Nat.eq_of_beq_eq_true hb) hk
      simp only [this, cond_false]
      exact Env.get_put2 G i hi R h2 F hF
/-- A frame comes to a cut. -/
theorem Env.near_of {G : Env} {S : List Nat} {R : Env} (hm : Env.mask n S G = Env.mask n S F) (hR : Env.has n R G) : Env.near n F S R (Env.act n G) := by
  refine ⟨fun i => G.get i, Env.act_congr fun i hi => ?_⟩
  refine (Env.get_put2 G i hi R hR _ ?_).symm
  rw [Env.get_junk]
  by_cases hc : S.contains i = true
  · simp only [hc, cond_true]
  · have hc' : S.contains i = false := by simpa using hc
    have := congrArg (fun l => l[i]?) hm
    simp only [Env.mask, List.getElem?_map, List.getElem?_range hi, Option.map_some, hc', cond_false, Option.some.injEq] at this
    simp only [hc', cond_false]
    exact this.symm
def Env.drop : Nat → Env → Env
  | 0, F => F
  | _ + 1, [] => []
  | k + 1, _ :: r => Env.drop k r
def Env.mem : List Nat → Nat → Bool
  | [], _ => false
  | s :: r, i => bif Nat.beq s i then true else Env.mem r i
def Env.inS (S : List Nat) : Nat → Env → Bool
  | 0, _ => true
  | _ + 1, [] => false
  | k + 1, p :: r => bif Env.mem S p.1 then Env.inS S k r else false
theorem Env.mem_contains : ∀ (S : List Nat) (i : Nat), Env.mem S i = true → S.contains i = true
  | [], _, h => by simp [Env.mem] at h
  | s :: r, i, h => by
    simp only [Env.mem] at h
    rw [List.contains_cons]
    cases hb : Nat.beq s i with
    | true => rw [Nat.eq_of_beq_eq_true hb]; simp
    | false => rw [hb, cond_false] at h; rw [Env.mem_contains r i h]; simp
theorem Env.mask_drop (S : List Nat) : ∀ (k : Nat) (G : Env), Env.inS S k G = true → Env.mask n S G = Env.mask n S (Env.drop k G)
  | 0, _, _ => rfl
  | _ + 1, [], h => by simp [Env.inS] at h
  | k + 1, p :: r, h => by
    simp only [Env.inS] at h
    cases hm : Env.mem S p.1 with
    | false => rw [hm, cond_false] at h; cases h
    | true =>
      rw [hm, cond_true] at h
      show _ = Env.mask n S (Env.drop k r)
      rw [← Env.mask_drop S k r h]
      have hc := Env.mem_contains S p.1 hm
      unfold Env.mask
      refine List.map_congr_left fun i _ => ?_
      cases hi : S.contains i with
      | true => rfl
      | false =>
        simp only [cond_false]
        obtain ⟨d, v⟩ := p
        have hne : Nat.beq d i = false := by
          cases hb : Nat.beq d i with
          | false => rfl
          | true => rw [Nat.eq_of_beq_eq_true hb] at hc; rw [hc] at hi; cases hi
        simp only [Env.get, hne, cond_false]
/-- .. its first k entries are slots of S, what follows is F. -/
theorem Env.near_at {F G : Env} {S : List Nat} {R : Env} (k : Nat) (hd : Env.drop k G = F) (hk : Env.inS S k G = true) (hR : Env.has n R G) : Env.near n F S R (Env.act n G) :=
  Env.near_of (by rw [Env.mask_drop S k G hk, hd]) hR
theorem nextI (j : Nat) : Value.int .i64 ((j : Int) + 1) = .int .i64 ((j + 1 : Nat) : Int) := by simp

/-- A piece of code, and what follows, parted by what is known between them. -/
theorem cut {x y : Code} {a : Act} (J : Act → World → Prop) (h1 : x.wp P (Exit.then J Q) a w) (h2 : ∀ a' w', J a' w' → y.wp P Q a' w') : (Code.seq x y).wp P Q a w :=
  wp_seq (wp_mono h1 fun e a' w' q => by cases e <;> first | exact h2 _ _ q | exact q)

theorem least {p : Nat → Prop} (h : ∃ k, p k) : ∃ k, p k ∧ ∀ j, p j → k ≤ j := by
  obtain ⟨k, hk⟩ := h
  induction k using Nat.strongRecOn with
  | _ k ih =>
    by_cases h : ∃ j, j < k ∧ p j
    · obtain ⟨j, hj, hp⟩ := h
      exact ih j hj hp
    · exact ⟨k, hk, fun j hj => Nat.le_of_not_lt fun hlt => h ⟨j, hlt, hj⟩⟩

/-- The same, said of the slots. -/
theorem cutN {x y : Code} (S : List Nat) (J : Env → World → Prop) (h1 : x.wp P (Exit.then (fun a' w' => ∃ R, J R w' ∧ Env.near n F S R a') Q) (Env.act n F) w)
    (h2 : ∀ R u w', J R w' → y.wp P Q (Env.act n (Env.put2 R (Env.junk S u F))) w') : (Code.seq x y).wp P Q (Env.act n F) w :=
  cut _ h1 fun a' w' ⟨R, hJ, u, ha⟩ => ha ▸ h2 R u w' hJ

open Classical in
theorem loop {c : Code} {a : Act} (J : Nat → Act → World → Prop) (h0 : ∃ k, J k a w)
    (round : ∀ k a w, J k a w → c.wp P (Exit.then (fun a' w' => ∃ k', k' < k ∧ J k' a' w') Q) a w) : (Code.loop c).wp P Q a w := by
  refine wp_loop (fun a w => ∃ k, J k a w) (fun a w => if h : ∃ k, J k a w then Classical.choose (least h) else 0) h0 fun a w h => ?_
  have hk := Classical.choose_spec (least h)
  refine wp_mono (round _ a w hk.1) fun e a' w' q => ?_
  cases e <;> first | exact q | skip
  obtain ⟨k', hlt, hJ⟩ := q
  have h' : ∃ k, J k a' w' := ⟨k', hJ⟩
  refine ⟨h', ?_⟩
  simp only [h, h', dif_pos]
  exact Nat.lt_of_le_of_lt ((Classical.choose_spec (least h')).2 k' hJ) hlt
theorem loopN {c : Code} (S : List Nat) (J : Nat → Env → World → Prop) (h0 : ∃ k R, J k R w ∧ Env.has n R F)
    (round : ∀ k R u w', J k R w' → c.wp P (Exit.then (fun a' w'' => ∃ k' R', k' < k ∧ J k' R' w'' ∧ Env.near n F S R' a') Q) (Env.act n (Env.put2 R (Env.junk S u F))) w') :
    (Code.loop c).wp P Q (Env.act n F) w := by
  obtain ⟨k, R, hJ, hR⟩ := h0
  refine loop (fun k a w => ∃ R, J k R w ∧ Env.near n F S R a) ⟨k, R, hJ, Env.near_of rfl hR⟩ fun k a w' ⟨R, hJ, u, ha⟩ => ?_
  subst ha
  exact wp_mono (round k R u w' hJ) fun e a w q => by
    cases e <;> first | exact q | skip
    obtain ⟨k', R', h1, h2, h3⟩ := q
    exact ⟨k', h1, R', h2, h3⟩
end
end Go.Sx
