/- The engine's operations that only yield. -/
import Derived.Test.YtnkafkikjcgogaaDoorSyb
set_option linter.unusedVariables false
set_option linter.unusedSimpArgs false
namespace Go.Sy
open Go.RowKit

/-! ### Closed facts on types -/
/-- Cells of a type. -/
def szB (P : Program) (t : TypeId) : Option Nat := (P.info? t).map (·.size)
/-- A type of one cell that is no struct and no array. -/
def plainB (P : Program) (t : TypeId) : Bool := match P.underlying t with | some (.struct _) | some (.array _ _) | none => false | _ => true
def aggB (P : Program) (t : TypeId) : Option Nat := match P.underlying t with | some (.struct _) | some (.array _ _) => szB P t | _ => none
/-- Where a field lies. -/
def fldB (P : Program) (s f : Nat) : Option Nat := match P.underlying s with
  | some (.struct fs) => match fs[f]? with
    | some fd => match szB P fd.type with
      | some 0 => none
      | some _ => some fd.offset
      | none => none
    | none => none
  | _ => none
/-- A slice type's elements' cells. -/
def elemB (P : Program) (t : TypeId) : Option (TypeId × Nat) := match P.underlying t with
  | some (.slice e) => (szB P e).map fun k => (e, k)
  | _ => none

theorem run_info {P : Program} {t : TypeId} {i : TypeInfo} (h : P.info? t = some i) (w : World) : (typeInfo t).run P w = .ok i w := by simp [typeInfo, h]
theorem run_size {P : Program} {t k : Nat} (h : szB P t = some k) (w : World) : (sizeOf t).run P w = .ok k w := by
  unfold szB at h
  obtain ⟨i, hi, rfl⟩ := Option.map_eq_some_iff.1 h
  simp [sizeOf, typeInfo, hi]
theorem run_isAgg_plain {P : Program} {t : TypeId} (h : plainB P t = true) (w : World) : (isAgg t).run P w = .ok false w := by
  unfold plainB at h
  cases hu : P.underlying t with
  | none => simp [hu] at h
  | some d => cases d <;> simp [hu] at h <;> simp [isAgg, run_underlying hu]
theorem run_isAgg_agg {P : Program} {t k : Nat} (h : aggB P t = some k) (w : World) : (isAgg t).run P w = .ok true w := by
  unfold aggB at h
  cases hu : P.underlying t with
  | none => simp [hu] at h
  | some d => cases d <;> simp [hu] at h <;> simp [isAgg, run_underlying hu]
theorem aggB_size {P : Program} {t k : Nat} (h : aggB P t = some k) : szB P t = some k := by
  unfold aggB at h
  cases hu : P.underlying t with
  | none => simp [hu] at h
  | some d => cases d <;> simp [hu] at h <;> exact h

theorem Addr.add_plain (b off j : Nat) : (⟨b, off, none⟩ : Addr).add j = ⟨b, off + j, none⟩ := by
  unfold Addr.add
  split <;> simp_all

theorem run_loadCells {P : Program} {w : World} {b off : Nat} : ∀ (k i : Nat) (acc : Array Value) (vs : List Value), vs.length = k → Cells b (off + i) vs w →
    (loadCellsFrom ⟨b, off, none⟩ i k acc).run P w = .ok (acc ++ vs.toArray) w
  | 0, _, acc, vs, hl, _ => by
    obtain rfl : vs = [] := List.eq_nil_of_length_eq_zero hl
    simp [loadCellsFrom]
  | k + 1, i, acc, v :: vs, hl, hc => by
    have h0 : w.cell? ⟨b, off + i, none⟩ = some v := by simpa using hc 0 v rfl
    have ih := run_loadCells (P := P) (w := w) (b := b) (off := off) k (i + 1) (acc.push v) vs (by simpa using hl) fun j u hj => by
      have := hc (j + 1) u (by simpa using hj)
      rw [show off + (i + 1) + j = off + i + (j + 1) from by omega]
      exact this
    simp only [loadCellsFrom, Addr.add_plain]
    simp [h0, ih]
  | k + 1, _, _, [], hl, _ => by simp at hl

section
variable {P : Program} {ops : Array Oper} {S : World → Prop} {n : Nat} {K : Env → World → Prop} {F : Env} {w : World} {r : Tr}
variable {d : Option Tmp} {ty : TypeId} {pos : String} {af : Array Edge} {g : Option (Nat × Bool)}

theorem done (h : K F w) : SQ P ops S n K .nil F w := h
theorem fork {a b : Tr} (ha : SQ P ops S n K a F w) (hb : SQ P ops S n K b F w) : SQ P ops S n K (.fork a b) F w := ⟨ha, hb⟩
theorem q_run {o : Oper} (v : Value) (hg : gd ops n F o.guard = true) (hr : ∀ w', S w' → (execOp (ev n F) o).run P w' = .ok (.value v) w')
    (h : SQ P ops S n K r (putE o.dst v F) w) : SQ P ops S n K (.q o r) F w := by
  unfold SQ
  rw [if_pos hg]
  exact ⟨v, hr, h⟩
/-- A guard says no. -/
theorem q_no {o : Oper} (hg : gd ops n F o.guard = false) (h : SQ P ops S n K r (putE o.dst undef F) w) : SQ P ops S n K (.q o r) F w := by
  unfold SQ
  rw [if_neg (by simp [hg])]
  exact h
theorem l_no {o : Oper} (hg : gd ops n F o.guard = false) (h : SQ P ops S n K r (putE o.dst undef F) w) : SQ P ops S n K (.l o r) F w := by
  unfold SQ
  rw [if_neg (by simp [hg])]
  exact h

theorem q_move {x : Operand} {v : Value} (hg : gd ops n F g = true) (hx : ev n F x = v) (h : SQ P ops S n K r (putE d v F) w) : SQ P ops S n K (.q ⟨d, .move x, ty, pos, af, g⟩ r) F w :=
  q_run _ hg (fun _ _ => by rw [← hx]; rfl) h
theorem q_assign {x : Operand} {v : Value} (hg : gd ops n F g = true) (hx : ev n F x = v) (h : SQ P ops S n K r (putE d v F) w) : SQ P ops S n K (.q ⟨d, .assign x, ty, pos, af, g⟩ r) F w :=
  q_run _ hg (fun _ _ => by rw [← hx]; rfl) h
theorem q_pick_t {c x y : Operand} {v : Value} (hg : gd ops n F g = true) (hc : ev n F c = .bool true) (hx : ev n F x = v) (h : SQ P ops S n K r (putE d v F) w) : SQ P ops S n K (.q ⟨d, .pick c x y, ty, pos, af, g⟩ r) F w :=
  q_run _ hg (fun _ _ => by simp [execOp, hc, asBool, hx]) h
theorem q_pick_f {c x y : Operand} {v : Value} (hg : gd ops n F g = true) (hc : ev n F c = .bool false) (hx : ev n F y = v) (h : SQ P ops S n K r (putE d v F) w) : SQ P ops S n K (.q ⟨d, .pick c x y, ty, pos, af, g⟩ r) F w :=
  q_run _ hg (fun _ _ => by simp [execOp, hc, asBool, hx]) h
theorem q_pick_bt {c x y : Operand} {v : Value} {b : Bool} (hg : gd ops n F g = true) (hc : ev n F c = .bool b) (hb : b = true) (hx : ev n F x = v) (h : SQ P ops S n K r (putE d v F) w) : SQ P ops S n K (.q ⟨d, .pick c x y, ty, pos, af, g⟩ r) F w := q_pick_t hg (hb ▸ hc) hx h
theorem q_pick_bf {c x y : Operand} {v : Value} {b : Bool} (hg : gd ops n F g = true) (hc : ev n F c = .bool b) (hb : b = false) (hx : ev n F y = v) (h : SQ P ops S n K r (putE d v F) w) : SQ P ops S n K (.q ⟨d, .pick c x y, ty, pos, af, g⟩ r) F w := q_pick_f hg (hb ▸ hc) hx h
theorem q_extract {x : Operand} {i : Nat} {vs : Array Value} {v : Value} (hg : gd ops n F g = true) (hx : ev n F x = .tuple vs) (hv : vs[i]? = some v) (h : SQ P ops S n K r (putE d v F) w) :
    SQ P ops S n K (.q ⟨d, .extract x i, ty, pos, af, g⟩ r) F w :=
  q_run _ hg (fun _ _ => by simp [execOp, hx, Instr.extract, hv]) h
theorem q_nilCheck {x : Operand} {a : Addr} (hg : gd ops n F g = true) (hx : ev n F x = .pointer (some a)) (h : SQ P ops S n K r (putE d (.pointer (some a)) F) w) :
    SQ P ops S n K (.q ⟨d, .nilCheck x, ty, pos, af, g⟩ r) F w :=
  q_run _ hg (fun _ _ => by simp [execOp, hx]) h
theorem q_not {x : Operand} {t : TypeId} {b : Bool} (hg : gd ops n F g = true) (hx : ev n F x = .bool b) (h : SQ P ops S n K r (putE d (.bool !b) F) w) :
    SQ P ops S n K (.q ⟨d, .unOp .not t x, ty, pos, af, g⟩ r) F w :=
  q_run _ hg (fun _ _ => by simp [execOp, hx, Op.unary]) h

/-! whole numbers -/
theorem q_add {k : IntKind} {x y : Operand} {t t' : TypeId} {a b c : Int} (hg : gd ops n F g = true) (hx : ev n F x = .int k a) (hy : ev n F y = .int k b) (hc : k.wrap (a + b) = c)
    (h : SQ P ops S n K r (putE d (.int k c) F) w) : SQ P ops S n K (.q ⟨d, .binOp .add t x y t', ty, pos, af, g⟩ r) F w :=
  q_run _ hg (fun _ _ => by simp [execOp, hx, hy, eqGuard, binOp, Op.intArith, hc]) h
theorem q_sub {k : IntKind} {x y : Operand} {t t' : TypeId} {a b c : Int} (hg : gd ops n F g = true) (hx : ev n F x = .int k a) (hy : ev n F y = .int k b) (hc : k.wrap (a - b) = c)
    (h : SQ P ops S n K r (putE d (.int k c) F) w) : SQ P ops S n K (.q ⟨d, .binOp .sub t x y t', ty, pos, af, g⟩ r) F w :=
  q_run _ hg (fun _ _ => by simp [execOp, hx, hy, eqGuard, binOp, Op.intArith, hc]) h
theorem q_mul {k : IntKind} {x y : Operand} {t t' : TypeId} {a b c : Int} (hg : gd ops n F g = true) (hx : ev n F x = .int k a) (hy : ev n F y = .int k b) (hc : k.wrap (a * b) = c)
    (h : SQ P ops S n K r (putE d (.int k c) F) w) : SQ P ops S n K (.q ⟨d, .binOp .mul t x y t', ty, pos, af, g⟩ r) F w :=
  q_run _ hg (fun _ _ => by simp [execOp, hx, hy, eqGuard, binOp, Op.intArith, hc]) h
theorem q_quo {k : IntKind} {x y : Operand} {t t' : TypeId} {a b c : Int} (hg : gd ops n F g = true) (hx : ev n F x = .int k a) (hy : ev n F y = .int k b) (h0 : b ≠ 0) (hc : k.wrap (a.tdiv b) = c)
    (h : SQ P ops S n K r (putE d (.int k c) F) w) : SQ P ops S n K (.q ⟨d, .binOp .quo t x y t', ty, pos, af, g⟩ r) F w :=
  q_run _ hg (fun _ _ => by simp [execOp, hx, hy, eqGuard, binOp, Op.intDiv, h0, hc]) h
theorem q_rem {k : IntKind} {x y : Operand} {t t' : TypeId} {a b c : Int} (hg : gd ops n F g = true) (hx : ev n F x = .int k a) (hy : ev n F y = .int k b) (h0 : b ≠ 0) (hc : a.tmod b = c)
    (h : SQ P ops S n K r (putE d (.int k c) F) w) : SQ P ops S n K (.q ⟨d, .binOp .rem t x y t', ty, pos, af, g⟩ r) F w :=
  q_run _ hg (fun _ _ => by simp [execOp, hx, hy, eqGuard, binOp, Op.intDiv, h0, hc]) h
theorem q_lss {k : IntKind} {x y : Operand} {t t' : TypeId} {a b : Int} (hg : gd ops n F g = true) (hx : ev n F x = .int k a) (hy : ev n F y = .int k b)
    (h : SQ P ops S n K r (putE d (.bool (decide (a < b))) F) w) : SQ P ops S n K (.q ⟨d, .binOp .lss t x y t', ty, pos, af, g⟩ r) F w :=
  q_run _ hg (fun _ _ => by simp [execOp, hx, hy, eqGuard, binOp, Op.intCmp]) h
theorem q_leq {k : IntKind} {x y : Operand} {t t' : TypeId} {a b : Int} (hg : gd ops n F g = true) (hx : ev n F x = .int k a) (hy : ev n F y = .int k b)
    (h : SQ P ops S n K r (putE d (.bool (decide (a ≤ b))) F) w) : SQ P ops S n K (.q ⟨d, .binOp .leq t x y t', ty, pos, af, g⟩ r) F w :=
  q_run _ hg (fun _ _ => by simp [execOp, hx, hy, eqGuard, binOp, Op.intCmp]) h
theorem q_gtr {k : IntKind} {x y : Operand} {t t' : TypeId} {a b : Int} (hg : gd ops n F g = true) (hx : ev n F x = .int k a) (hy : ev n F y = .int k b)
    (h : SQ P ops S n K r (putE d (.bool (decide (b < a))) F) w) : SQ P ops S n K (.q ⟨d, .binOp .gtr t x y t', ty, pos, af, g⟩ r) F w :=
  q_run _ hg (fun _ _ => by simp [execOp, hx, hy, eqGuard, binOp, Op.intCmp, GT.gt]) h
theorem q_geq {k : IntKind} {x y : Operand} {t t' : TypeId} {a b : Int} (hg : gd ops n F g = true) (hx : ev n F x = .int k a) (hy : ev n F y = .int k b)
    (h : SQ P ops S n K r (putE d (.bool (decide (b ≤ a))) F) w) : SQ P ops S n K (.q ⟨d, .binOp .geq t x y t', ty, pos, af, g⟩ r) F w :=
  q_run _ hg (fun _ _ => by simp [execOp, hx, hy, eqGuard, binOp, Op.intCmp, GE.ge]) h
theorem q_eql {k : IntKind} {x y : Operand} {t t' : TypeId} {a b : Int} (hg : gd ops n F g = true) (hx : ev n F x = .int k a) (hy : ev n F y = .int k b)
    (h : SQ P ops S n K r (putE d (.bool (decide (a = b))) F) w) : SQ P ops S n K (.q ⟨d, .binOp .eql t x y t', ty, pos, af, g⟩ r) F w :=
  q_run _ hg (fun _ _ => by
    have : (a == b) = decide (a = b) := rfl
    simp [execOp, hx, hy, eqGuard, binOp, Op.intCmp, this]) h
theorem q_neq {k : IntKind} {x y : Operand} {t t' : TypeId} {a b : Int} (hg : gd ops n F g = true) (hx : ev n F x = .int k a) (hy : ev n F y = .int k b)
    (h : SQ P ops S n K r (putE d (.bool (!decide (a = b))) F) w) : SQ P ops S n K (.q ⟨d, .binOp .neq t x y t', ty, pos, af, g⟩ r) F w :=
  q_run _ hg (fun _ _ => by
    have : (a != b) = !decide (a = b) := rfl
    simp [execOp, hx, hy, eqGuard, binOp, Op.intCmp, this]) h

/-! errors and other interface values against nil, slices against nil, strings -/
def ifaceB (P : Program) (t : TypeId) : Bool := match P.underlying t with | some (.interface _) => true | _ => false
theorem ifaceB_spec {P : Program} {t : TypeId} (h : ifaceB P t = true) : ∃ ms, P.underlying t = some (.interface ms) := by
  unfold ifaceB at h
  cases hu : P.underlying t with
  | none => simp [hu] at h
  | some dd => cases dd <;> simp [hu] at h; exact ⟨_, rfl⟩
theorem eqNilNil {t : TypeId} (hT : ifaceB P t = true) (w : World) : (Op.equal t .nilIface .nilIface).run P w = .ok true w := by
  obtain ⟨ms, hu⟩ := ifaceB_spec hT
  show (Op.equalIn (9999 + 1) t .nilIface .nilIface).run P w = _
  unfold Op.equalIn
  simp [run_underlying hu]
theorem eqIfNil {t u : TypeId} {v : Value} (hT : ifaceB P t = true) (w : World) : (Op.equal t (.iface u v) .nilIface).run P w = .ok false w := by
  obtain ⟨ms, hu⟩ := ifaceB_spec hT
  show (Op.equalIn (9999 + 1) t (.iface u v) .nilIface).run P w = _
  unfold Op.equalIn
  simp [run_underlying hu]
def sliceB (P : Program) (t : TypeId) : Bool := match P.underlying t with | some (.slice _) => true | _ => false
theorem eqSlNil {t : TypeId} {a : Option Addr} {len cap : Nat} (hT : sliceB P t = true) (w : World) : (Op.equal t (.slice a len cap) (.slice none 0 0)).run P w = .ok a.isNone w := by
  unfold sliceB at hT
  cases hu : P.underlying t with
  | none => simp [hu] at hT
  | some dd =>
    cases dd <;> simp [hu] at hT
    show (Op.equalIn (9999 + 1) t (.slice a len cap) (.slice none 0 0)).run P w = _
    unfold Op.equalIn
    cases a <;> simp [run_underlying hu]
/-- '==' and '!=' where the model asks 'equal', and its guard lets it by. -/
theorem q_eqOf {x y : Operand} {t t' : TypeId} {u v : Value} {b : Bool} (hg : gd ops n F g = true) (hx : ev n F x = u) (hy : ev n F y = v)
    (hG : ∀ w', S w' → (eqGuard .eql t x y u v).run P w' = .ok () w') (hB : binOp .eql t u v = (do pure (.bool (← Op.equal t u v)))) (hE : ∀ w', S w' → (Op.equal t u v).run P w' = .ok b w')
    (h : SQ P ops S n K r (putE d (.bool b) F) w) : SQ P ops S n K (.q ⟨d, .binOp .eql t x y t', ty, pos, af, g⟩ r) F w :=
  q_run _ hg (fun w' e => by
    subst hx hy
    simp only [execOp, Sem.run_bind]
    rw [hG w' e, hB]
    simp [hE w' e]) h
theorem q_neOf {x y : Operand} {t t' : TypeId} {u v : Value} {b : Bool} (hg : gd ops n F g = true) (hx : ev n F x = u) (hy : ev n F y = v)
    (hG : ∀ w', S w' → (eqGuard .neq t x y u v).run P w' = .ok () w') (hB : binOp .neq t u v = (do pure (.bool (!(← Op.equal t u v))))) (hE : ∀ w', S w' → (Op.equal t u v).run P w' = .ok b w')
    (h : SQ P ops S n K r (putE d (.bool (!b)) F) w) : SQ P ops S n K (.q ⟨d, .binOp .neq t x y t', ty, pos, af, g⟩ r) F w :=
  q_run _ hg (fun w' e => by
    subst hx hy
    simp only [execOp, Sem.run_bind]
    rw [hG w' e, hB]
    simp [hE w' e]) h
theorem q_nilEql {x : Operand} {t t' : TypeId} (hg : gd ops n F g = true) (hx : ev n F x = .nilIface) (hT : ifaceB P t = true)
    (h : SQ P ops S n K r (putE d (.bool true) F) w) : SQ P ops S n K (.q ⟨d, .binOp .eql t x (.const .nilIface) t', ty, pos, af, g⟩ r) F w :=
  q_eqOf hg hx rfl (fun _ _ => by simp [eqGuard, ev]) rfl (fun _ _ => eqNilNil hT _) h
theorem q_nilNeq {x : Operand} {t t' : TypeId} (hg : gd ops n F g = true) (hx : ev n F x = .nilIface) (hT : ifaceB P t = true)
    (h : SQ P ops S n K r (putE d (.bool false) F) w) : SQ P ops S n K (.q ⟨d, .binOp .neq t x (.const .nilIface) t', ty, pos, af, g⟩ r) F w :=
  q_neOf hg hx rfl (fun _ _ => by simp [eqGuard, ev]) rfl (fun _ _ => eqNilNil hT _) h
theorem q_ifEql {x : Operand} {t t' u : TypeId} {v : Value} (hg : gd ops n F g = true) (hx : ev n F x = .iface u v) (hT : ifaceB P t = true)
    (h : SQ P ops S n K r (putE d (.bool false) F) w) : SQ P ops S n K (.q ⟨d, .binOp .eql t x (.const .nilIface) t', ty, pos, af, g⟩ r) F w :=
  q_eqOf hg hx rfl (fun _ _ => by simp [eqGuard, ev]) rfl (fun _ _ => eqIfNil hT _) h
theorem q_ifNeq {x : Operand} {t t' u : TypeId} {v : Value} (hg : gd ops n F g = true) (hx : ev n F x = .iface u v) (hT : ifaceB P t = true)
    (h : SQ P ops S n K r (putE d (.bool true) F) w) : SQ P ops S n K (.q ⟨d, .binOp .neq t x (.const .nilIface) t', ty, pos, af, g⟩ r) F w :=
  q_neOf hg hx rfl (fun _ _ => by simp [eqGuard, ev]) rfl (fun _ _ => eqIfNil hT _) h
theorem q_slNilEql {x : Operand} {t t' : TypeId} {a : Option Addr} {len cap : Nat} (hg : gd ops n F g = true) (hx : ev n F x = .slice a len cap) (hT : sliceB P t = true)
    (h : SQ P ops S n K r (putE d (.bool a.isNone) F) w) : SQ P ops S n K (.q ⟨d, .binOp .eql t x (.const (.slice none 0 0)) t', ty, pos, af, g⟩ r) F w :=
  q_eqOf hg hx rfl (fun _ _ => by simp [eqGuard, ev]) rfl (fun _ _ => eqSlNil hT _) h
theorem q_slNilNeq {x : Operand} {t t' : TypeId} {a : Option Addr} {len cap : Nat} (hg : gd ops n F g = true) (hx : ev n F x = .slice a len cap) (hT : sliceB P t = true)
    (h : SQ P ops S n K r (putE d (.bool (!a.isNone)) F) w) : SQ P ops S n K (.q ⟨d, .binOp .neq t x (.const (.slice none 0 0)) t', ty, pos, af, g⟩ r) F w :=
  q_neOf hg hx rfl (fun _ _ => by simp [eqGuard, ev]) rfl (fun _ _ => eqSlNil hT _) h
theorem eqBool {t : TypeId} {a b : Bool} (hT : P.underlying t = some .bool) (w : World) : (Op.equal t (.bool a) (.bool b)).run P w = .ok (decide (a = b)) w := by
  show (Op.equalIn (9999 + 1) t (.bool a) (.bool b)).run P w = _
  unfold Op.equalIn
  simp [run_underlying hT]
  cases a <;> cases b <;> rfl
theorem q_boolEql {x y : Operand} {t t' : TypeId} {a b : Bool} (hg : gd ops n F g = true) (hx : ev n F x = .bool a) (hy : ev n F y = .bool b) (hT : P.underlying t = some .bool)
    (h : SQ P ops S n K r (putE d (.bool (decide (a = b))) F) w) : SQ P ops S n K (.q ⟨d, .binOp .eql t x y t', ty, pos, af, g⟩ r) F w :=
  q_eqOf hg hx hy (fun _ _ => by simp [eqGuard]) rfl (fun _ _ => eqBool hT _) h
theorem q_boolNeq {x y : Operand} {t t' : TypeId} {a b : Bool} (hg : gd ops n F g = true) (hx : ev n F x = .bool a) (hy : ev n F y = .bool b) (hT : P.underlying t = some .bool)
    (h : SQ P ops S n K r (putE d (.bool (!decide (a = b))) F) w) : SQ P ops S n K (.q ⟨d, .binOp .neq t x y t', ty, pos, af, g⟩ r) F w :=
  q_neOf hg hx hy (fun _ _ => by simp [eqGuard]) rfl (fun _ _ => eqBool hT _) h
theorem toList_beq (a b : ByteArray) : (a.toList == b.toList) = decide (a = b) := by
  have : a.toList = b.toList ↔ a = b := ⟨fun h => by
    rw [ByteArray.toList_eq, ByteArray.toList_eq] at h
    cases a; cases b
    congr
    exact Array.ext' h, fun h => h ▸ rfl⟩
  rw [Bool.eq_iff_iff]
  simp [this]
theorem q_strEql {x y : Operand} {t t' : TypeId} {a b : ByteArray} (hg : gd ops n F g = true) (hx : ev n F x = .string a) (hy : ev n F y = .string b)
    (h : SQ P ops S n K r (putE d (.bool (decide (a = b))) F) w) : SQ P ops S n K (.q ⟨d, .binOp .eql t x y t', ty, pos, af, g⟩ r) F w :=
  q_run _ hg (fun _ _ => by simp [execOp, hx, hy, eqGuard, binOp, Op.stringOp, toList_beq]) h
theorem q_strNeq {x y : Operand} {t t' : TypeId} {a b : ByteArray} (hg : gd ops n F g = true) (hx : ev n F x = .string a) (hy : ev n F y = .string b)
    (h : SQ P ops S n K r (putE d (.bool (!decide (a = b))) F) w) : SQ P ops S n K (.q ⟨d, .binOp .neq t x y t', ty, pos, af, g⟩ r) F w :=
  q_run _ hg (fun _ _ => by simp [execOp, hx, hy, eqGuard, binOp, Op.stringOp, toList_beq]) h

/-! memory that is read -/
theorem q_load {x : Operand} {t : TypeId} {b off : Nat} {v : Value} (hg : gd ops n F g = true) (hx : ev n F x = .pointer (some ⟨b, off, none⟩)) (hT : plainB P t = true)
    (hc : ∀ w', S w' → w'.cell? ⟨b, off, none⟩ = some v) (h : SQ P ops S n K r (putE d v F) w) : SQ P ops S n K (.q ⟨d, .load t x, ty, pos, af, g⟩ r) F w :=
  q_run _ hg (fun w' e => by simp [execOp, hx, Instr.loadAt, Instr.sureAddr, loadVar, run_isAgg_plain hT, hc w' e]) h
/-- Out of a block known whole. -/
theorem q_loadB {x : Operand} {t T : TypeId} {b off : Nat} {v : Value} {cs : List Value} (hg : gd ops n F g = true) (hx : ev n F x = .pointer (some ⟨b, off, none⟩)) (hT : plainB P t = true)
    (hb : ∀ w', S w' → Blk b cs T w') (hv : cs[off]? = some v) (h : SQ P ops S n K r (putE d v F) w) : SQ P ops S n K (.q ⟨d, .load t x, ty, pos, af, g⟩ r) F w :=
  q_load hg hx hT (fun w' e => ((hb w' e).cell off).trans hv) h
theorem q_loadN {x : Operand} {t k : Nat} {b off : Nat} {vs : List Value} (hg : gd ops n F g = true) (hx : ev n F x = .pointer (some ⟨b, off, none⟩)) (hT : aggB P t = some k) (hl : vs.length = k)
    (hc : ∀ w', S w' → Cells b off vs w') (h : SQ P ops S n K r (putE d (.agg vs.toArray) F) w) : SQ P ops S n K (.q ⟨d, .load t x, ty, pos, af, g⟩ r) F w :=
  q_run _ hg (fun w' e => by
    have := run_loadCells (P := P) (w := w') (b := b) (off := off) k 0 #[] vs hl (hc w' e)
    simp [execOp, hx, Instr.loadAt, Instr.sureAddr, loadVar, run_isAgg_agg hT, run_size (aggB_size hT), loadCells, this]) h
theorem Blk.part {b : Nat} {cs : List Value} {T : TypeId} {w : World} (h : Blk b cs T w) (off : Nat) (vs : List Value) (hv : (cs.drop off).take vs.length = vs) : Cells b off vs w := fun j v hj => by
  rw [h.cell, ← List.getElem?_drop]
  rw [← hv] at hj
  have hlt : j < vs.length := by
    rcases Nat.lt_or_ge j vs.length with h' | h'
    · exact h'
    · rw [List.getElem?_eq_none (by simp; omega)] at hj; cases hj
  rw [List.getElem?_take_of_lt hlt] at hj
  exact hj
theorem q_loadBN {x : Operand} {t k T : Nat} {b off : Nat} {cs : List Value} (vs : List Value) (hg : gd ops n F g = true) (hx : ev n F x = .pointer (some ⟨b, off, none⟩)) (hT : aggB P t = some k) (hl : vs.length = k)
    (hb : ∀ w', S w' → Blk b cs T w') (hv : (cs.drop off).take vs.length = vs) (h : SQ P ops S n K r (putE d (.agg vs.toArray) F) w) : SQ P ops S n K (.q ⟨d, .load t x, ty, pos, af, g⟩ r) F w :=
  q_loadN hg hx hT hl (fun w' e => (hb w' e).part off vs hv) h

/-! addresses -/
theorem run_fieldAt {s f off b o : Nat} (h : fldB P s f = some off) (w : World) : (Instr.fieldAt s (.pointer (some ⟨b, o, none⟩)) f).run P w = .ok (.pointer (some ⟨b, o + off, none⟩)) w := by
  unfold fldB at h
  cases hu : P.underlying s with
  | none => simp [hu] at h
  | some dd =>
    cases dd with
    | struct fs =>
      simp only [hu] at h
      cases hf : fs[f]? with
      | none => simp [hf] at h
      | some fd =>
        simp only [hf] at h
        cases hs : szB P fd.type with
        | none => simp [hs] at h
        | some k =>
          cases k with
          | zero => simp [hs] at h
          | succ k =>
            simp [hs] at h
            subst h
            simp [Instr.fieldAt, run_underlying hu, hf, Instr.sureAddr, fieldPlace, run_size hs, Addr.add_plain]
    | _ => simp [hu] at h
theorem q_fieldAddr {x : Operand} {s f off b o : Nat} (hg : gd ops n F g = true) (hx : ev n F x = .pointer (some ⟨b, o, none⟩)) (hf : fldB P s f = some off)
    (h : SQ P ops S n K r (putE d (.pointer (some ⟨b, o + off, none⟩)) F) w) : SQ P ops S n K (.q ⟨d, .fieldAddr s x f, ty, pos, af, g⟩ r) F w :=
  q_run _ hg (fun w' _ => by simp [execOp, hx, run_fieldAt hf]) h
theorem q_indexAddr {x y : Operand} {t e k b o len cap : Nat} {i : Int} {ik : IntKind} (hg : gd ops n F g = true) (hx : ev n F x = .slice (some ⟨b, o, none⟩) len cap) (hy : ev n F y = .int ik i)
    (hT : elemB P t = some (e, k)) (h0 : 0 ≤ i) (h1 : i < len) (h : SQ P ops S n K r (putE d (.pointer (some ⟨b, o + i.toNat * k, none⟩)) F) w) :
    SQ P ops S n K (.q ⟨d, .indexAddr t x y, ty, pos, af, g⟩ r) F w :=
  q_run _ hg (fun w' _ => by
    unfold elemB at hT
    cases hu : P.underlying t with
    | none => simp [hu] at hT
    | some dd =>
      cases dd with
      | slice e' =>
        simp only [hu, Option.map_eq_some_iff, Prod.mk.injEq] at hT
        obtain ⟨k', hk, rfl, rfl⟩ := hT
        simp [execOp, hx, hy, Instr.indexAt, asIntOf, run_underlying hu, h0, h1, run_size hk, Addr.add_plain]
      | _ => simp [hu] at hT) h
/-- A byte of a string. -/
theorem q_indexS {x y : Operand} {t : Nat} {s : ByteArray} {i : Int} {ik : IntKind} {c : UInt8} (hg : gd ops n F g = true) (hx : ev n F x = .string s) (hy : ev n F y = .int ik i)
    (hT : P.underlying t = some .string) (h0 : 0 ≤ i) (hc : s[i.toNat]? = some c) (h : SQ P ops S n K r (putE d (.int .u8 c.toNat) F) w) :
    SQ P ops S n K (.q ⟨d, .index t x y, ty, pos, af, g⟩ r) F w :=
  q_run _ hg (fun w' _ => by simp [execOp, hx, hy, Instr.index, asIntOf, run_underlying hT, h0, hc]) h

/-! builtins -/
theorem q_len {x : Operand} {t e k len cap : Nat} {a : Option Addr} (hg : gd ops n F g = true) (hx : ev n F x = .slice a len cap) (hT : elemB P t = some (e, k))
    (h : SQ P ops S n K r (putE d (.int .i64 len) F) w) : SQ P ops S n K (.q ⟨d, .call ⟨.builtin .len, #[x], #[t]⟩, ty, pos, af, g⟩ r) F w :=
  q_run _ hg (fun w' _ => by
    unfold elemB at hT
    cases hu : P.underlying t with
    | none => simp [hu] at hT
    | some dd =>
      cases dd with
      | slice e' => simp [execOp, resolve, invoke, builtin, Builtin.len_, hx, run_underlying hu, goInt]
      | _ => simp [hu] at hT) h
theorem q_lenS {x : Operand} {t : Nat} {s : ByteArray} (hg : gd ops n F g = true) (hx : ev n F x = .string s) (hT : P.underlying t = some .string)
    (h : SQ P ops S n K r (putE d (.int .i64 s.size) F) w) : SQ P ops S n K (.q ⟨d, .call ⟨.builtin .len, #[x], #[t]⟩, ty, pos, af, g⟩ r) F w :=
  q_run _ hg (fun w' _ => by simp [execOp, resolve, invoke, builtin, Builtin.len_, hx, run_underlying hT, goInt]) h
theorem q_max {x y : Operand} {ts : Array TypeId} {k : IntKind} {a b : Int} (hg : gd ops n F g = true) (hx : ev n F x = .int k a) (hy : ev n F y = .int k b)
    (h : SQ P ops S n K r (putE d (.int k (if a < b then b else a)) F) w) : SQ P ops S n K (.q ⟨d, .call ⟨.builtin .max, #[x, y], ts⟩, ty, pos, af, g⟩ r) F w :=
  q_run _ hg (fun w' _ => by simp [execOp, resolve, invoke, builtin, Builtin.max_, Builtin.max2, hx, hy, GT.gt]) h
theorem q_min {x y : Operand} {ts : Array TypeId} {k : IntKind} {a b : Int} (hg : gd ops n F g = true) (hx : ev n F x = .int k a) (hy : ev n F y = .int k b)
    (h : SQ P ops S n K r (putE d (.int k (if b < a then b else a)) F) w) : SQ P ops S n K (.q ⟨d, .call ⟨.builtin .min, #[x, y], ts⟩, ty, pos, af, g⟩ r) F w :=
  q_run _ hg (fun w' _ => by simp [execOp, resolve, invoke, builtin, Builtin.min_, Builtin.min2, hx, hy]) h

/-! values that are put together -/
theorem q_build {t : Nat} {ps : List (Nat × Operand)} {vs : List (Nat × Value)} (v : Value) (hg : gd ops n F g = true) (hp : (ps.map fun p => (p.1, ev n F p.2)) = vs)
    (hr : ∀ w', (Instr.build t vs.toArray).run P w' = .ok v w') (h : SQ P ops S n K r (putE d v F) w) : SQ P ops S n K (.q ⟨d, .build t ps.toArray, ty, pos, af, g⟩ r) F w :=
  q_run v hg (fun w' _ => by
    have : (ps.toArray.map fun (x : Nat × Operand) => match x with | (i, x) => (i, ev n F x)) = vs.toArray := by
      rw [← hp, List.map_toArray]
    simp only [execOp, Sem.run_bind]
    rw [this, hr w']; rfl) h
theorem q_makeInterface {x : Operand} {t : Nat} {v : Value} (hg : gd ops n F g = true) (hx : ev n F x = v) (hT : (match P.underlying t with | some (.interface _) | none => false | _ => true) = true)
    (h : SQ P ops S n K r (putE d (.iface t v) F) w) : SQ P ops S n K (.q ⟨d, .makeInterface t x, ty, pos, af, g⟩ r) F w :=
  q_run _ hg (fun w' _ => by
    cases hu : P.underlying t with
    | none => simp [hu] at hT
    | some dd => cases dd <;> simp [hu] at hT <;> simp [execOp, Instr.makeInterface, run_underlying hu, hx]) h
theorem q_makeFunc {f : FuncId} {xs : List Operand} {vs : List Value} (hg : gd ops n F g = true) (hx : xs.map (ev n F) = vs)
    (h : SQ P ops S n K r (putE d (.func (.func f) #[] vs.toArray) F) w) : SQ P ops S n K (.q ⟨d, .makeFunc (.func f) #[] xs.toArray, ty, pos, af, g⟩ r) F w :=
  q_run _ hg (fun w' _ => by
    subst hx
    simp [execOp, Instr.makeFunc]) h
end
end Go.Sy
