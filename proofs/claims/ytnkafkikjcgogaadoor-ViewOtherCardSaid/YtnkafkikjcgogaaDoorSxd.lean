/- The engine's operations that make or write memory, or call. -/
import Derived.Test.YtnkafkikjcgogaaDoorSxc
set_option linter.unusedVariables false
set_option linter.unusedSimpArgs false
namespace Go.Sx
open Go.RowKit

/-- A function with a body. -/
def entB (P : Program) (f : FuncId) : Bool := match P.funcs[f]? with
  | some fn => !(fn.name == "runtime.NumGoroutine") && fn.body.isSome
  | none => false
theorem run_callFunc {P : Program} {f : FuncId} (h : entB P f = true) (args : Array Value) (w : World) : (callFunc f args).run P w = .ok (.enter f args) w := by
  unfold entB at h
  cases hf : P.funcs[f]? with
  | none => simp [hf] at h
  | some fn =>
    simp only [hf, Bool.and_eq_true, Bool.not_eq_true'] at h
    obtain ⟨h1, h2⟩ := h
    have h3 : fn.body ≠ none := by intro hb; simp [hb] at h2
    have h4 : fn.name ≠ "runtime.NumGoroutine" := by simpa using h1
    simp [callFunc, hf, h3, h4]
/-- A type's zero value's cells. -/
def zeroB (P : Program) (t : TypeId) : Option (List Value) := ((P.info? t).bind (·.zero)).map fun z => z.cells.toList
theorem run_zero {P : Program} {t : TypeId} {cs : List Value} (h : zeroB P t = some cs) (w : World) : ∃ z, (zeroValue t).run P w = .ok z w ∧ z.cells = cs.toArray := by
  unfold zeroB at h
  cases hi : P.info? t with
  | none => simp [hi] at h
  | some i =>
    cases hz : i.zero with
    | none => simp [hi, hz] at h
    | some z =>
      simp only [hi, hz, Option.bind_some, Option.map_some, Option.some.injEq] at h
      exact ⟨z, by simp [zeroValue, typeInfo, hi, hz], by rw [← h]⟩

theorem Evo.setRow (w : World) (b : Nat) (cs : Array Value) : Evo (· = b) w (w.setRow b cs) :=
  ⟨rfl, rfl, rfl, by simp, Nat.le_refl _, fun k _ hk => setRow_other w b k cs hk⟩
theorem Blk.setRow {b : Nat} {old : List Value} {T : TypeId} {w : World} (h : Blk b old T w) (cs : List Value) : Blk b cs T (w.setRow b cs.toArray) := setRow_heap w b _ _ _ _ h

section
variable {P : Program} {ops : Array Oper} {S : World → Prop} {n : Nat} {K : Env → World → Prop} {F : Env} {w : World} {r : Tr}
variable {d : Option Tmp} {ty : TypeId} {pos : String} {af : Array Edge} {g : Option (Nat × Bool)}

theorem l_val {o : Oper} {w1 : World} (v : Value) (hg : gd ops n F o.guard = true) (hr : (execOp (ev n F) o).run P w = .ok (.value v) w1) (hS : S w1)
    (h : SQ P ops S n K r (putE o.dst v F) w1) : SQ P ops S n K (.l o r) F w := by
  unfold SQ
  rw [if_pos hg]
  intro K' hK'
  unfold Oper.wp
  rw [Env.eval_act, hr]
  simp only [Oper.upon, Env.put_act]
  exact hK' _ _ hS h
theorem l_skip {o : Oper} {w1 : World} (hg : gd ops n F o.guard = true) (hr : (execOp (ev n F) o).run P w = .ok .skip w1) (hS : S w1)
    (h : SQ P ops S n K r (putE o.dst undef F) w1) : SQ P ops S n K (.l o r) F w := by
  unfold SQ
  rw [if_pos hg]
  intro K' hK'
  unfold Oper.wp
  rw [Env.eval_act, hr]
  simp only [Oper.upon, Env.put_act]
  exact hK' _ _ hS h

/-! memory that is read now -/
theorem l_load {x : Operand} {t : TypeId} {b off : Nat} {v : Value} (hS : S w) (hg : gd ops n F g = true) (hx : ev n F x = .pointer (some ⟨b, off, none⟩)) (hT : plainB P t = true)
    (hc : w.cell? ⟨b, off, none⟩ = some v) (h : SQ P ops S n K r (putE d v F) w) : SQ P ops S n K (.l ⟨d, .load t x, ty, pos, af, g⟩ r) F w :=
  l_val v hg (by simp [execOp, hx, Instr.loadAt, Instr.sureAddr, loadVar, run_isAgg_plain hT, hc]) hS h
theorem l_loadB {x : Operand} {t T : TypeId} {b off : Nat} {v : Value} {cs : List Value} (hS : S w) (hg : gd ops n F g = true) (hx : ev n F x = .pointer (some ⟨b, off, none⟩)) (hT : plainB P t = true)
    (hb : Blk b cs T w) (hv : cs[off]? = some v) (h : SQ P ops S n K r (putE d v F) w) : SQ P ops S n K (.l ⟨d, .load t x, ty, pos, af, g⟩ r) F w :=
  l_load hS hg hx hT ((hb.cell off).trans hv) h
theorem l_loadN {x : Operand} {t k : Nat} {b off : Nat} {vs : List Value} (hS : S w) (hg : gd ops n F g = true) (hx : ev n F x = .pointer (some ⟨b, off, none⟩)) (hT : aggB P t = some k) (hl : vs.length = k)
    (hc : Cells b off vs w) (h : SQ P ops S n K r (putE d (.agg vs.toArray) F) w) : SQ P ops S n K (.l ⟨d, .load t x, ty, pos, af, g⟩ r) F w := by
  have := run_loadCells (P := P) (w := w) (b := b) (off := off) k 0 #[] vs hl hc
  exact l_val _ hg (by simp [execOp, hx, Instr.loadAt, Instr.sureAddr, loadVar, run_isAgg_agg hT, run_size (aggB_size hT), loadCells, this]) hS h
theorem l_loadBN {x : Operand} {t k T : Nat} {b off : Nat} {cs : List Value} (vs : List Value) (hS : S w) (hg : gd ops n F g = true) (hx : ev n F x = .pointer (some ⟨b, off, none⟩)) (hT : aggB P t = some k) (hl : vs.length = k)
    (hb : Blk b cs T w) (hv : (cs.drop off).take vs.length = vs) (h : SQ P ops S n K r (putE d (.agg vs.toArray) F) w) : SQ P ops S n K (.l ⟨d, .load t x, ty, pos, af, g⟩ r) F w :=
  l_loadN hS hg hx hT hl (hb.part off vs hv) h

theorem l_box {M : Nat → Prop} {x : Operand} {t : TypeId} {cs : List Value} (hS : Keep S No w) (hM : Old M w) (hg : gd ops n F g = true) (hx : (ev n F x).cells = cs.toArray)
    (h : ∀ b w1, Evo No w w1 → At M w1 (Blk b cs t) → w.heap.size ≤ b → SQ P ops S n K r (putE d (.pointer (some ⟨b, 0, none⟩)) F) w1) :
    SQ P ops S n K (.l ⟨d, .box t x, ty, pos, af, g⟩ r) F w := by
  refine l_val (w1 := w.alloc (.cells cs.toArray t)) _ hg ?_ (hS _ (Evo.alloc w _)) (h w.heap.size _ (Evo.alloc w _) (Blk.newAt hM cs t) (Nat.le_refl _))
  simp [execOp, Instr.box, newVar, newRow, hx]
/-- A box that will be written. -/
theorem l_boxM {M : Nat → Prop} {x : Operand} {t : TypeId} {cs : List Value} (hS : Keep S No w) (hM : Old M w) (hg : gd ops n F g = true) (hx : (ev n F x).cells = cs.toArray)
    (h : ∀ b w1, Evo No w w1 → Blk b cs t w1 → w.heap.size ≤ b → Old (Plus M b) w1 → SQ P ops S n K r (putE d (.pointer (some ⟨b, 0, none⟩)) F) w1) :
    SQ P ops S n K (.l ⟨d, .box t x, ty, pos, af, g⟩ r) F w := by
  refine l_val (w1 := w.alloc (.cells cs.toArray t)) _ hg ?_ (hS _ (Evo.alloc w _))
    (h w.heap.size _ (Evo.alloc w _) (Blk.new w cs t) (Nat.le_refl _) ((hM.on (Evo.alloc w _)).plus (by simp)))
  simp [execOp, Instr.box, newVar, newRow, hx]
theorem l_alloc {M : Nat → Prop} {t : TypeId} {cs : List Value} (hS : Keep S No w) (hM : Old M w) (hg : gd ops n F g = true) (hz : zeroB P t = some cs)
    (h : ∀ b w1, Evo No w w1 → Blk b cs t w1 → w.heap.size ≤ b → Old (Plus M b) w1 → SQ P ops S n K r (putE d (.pointer (some ⟨b, 0, none⟩)) F) w1) :
    SQ P ops S n K (.l ⟨d, .alloc t, ty, pos, af, g⟩ r) F w := by
  obtain ⟨z, hz1, hz2⟩ := run_zero hz w
  refine l_val (w1 := w.alloc (.cells cs.toArray t)) _ hg ?_ (hS _ (Evo.alloc w _))
    (h w.heap.size _ (Evo.alloc w _) (Blk.new w cs t) (Nat.le_refl _) ((hM.on (Evo.alloc w _)).plus (by simp)))
  simp [execOp, Instr.alloc, hz1, newVar, newRow, hz2]
theorem l_store {x y : Operand} {t T b off k : Nat} {cs vs cs' : List Value} (hS : Keep S (· = b) w) (hg : gd ops n F g = true) (hx : ev n F x = .pointer (some ⟨b, off, none⟩)) (hb : Blk b cs T w)
    (hy : (ev n F y).cells = vs.toArray) (hs : szB P t = some k) (hl : vs.length = k) (hlen : off + k ≤ cs.length) (h1 : vs.all (·.oneCell') = true) (hcs : cs.take off ++ vs ++ cs.drop (off + vs.length) = cs')
    (h : ∀ w1, Evo (· = b) w w1 → Blk b cs' T w1 → SQ P ops S n K r (putE d undef F) w1) : SQ P ops S n K (.l ⟨d, .store t x y, ty, pos, af, g⟩ r) F w := by
  have hr := run_storeCells_at (P := P) b off T vs 0 cs.toArray w hb (by simp; omega) (fun v hv => by simpa using List.all_eq_true.1 h1 v hv)
  simp only [Nat.add_zero] at hr
  rw [hcs] at hr
  refine l_skip (w1 := w.setRow b cs'.toArray) hg ?_ (hS _ (Evo.setRow w b _)) (h _ (Evo.setRow w b _) (hb.setRow cs'))
  simp [execOp, hx, Instr.storeAt, Instr.sureAddr, storeVar, hy, run_size hs, hl, hr]

theorem l_call {X : Nat → Prop} {φ : Value → World → Prop} {fo : Operand} {xs : List Operand} {ts : Array TypeId} {f : FuncId} {al : List Value} (hS : Keep S X w) (hg : gd ops n F g = true) (hC : Calls P f al.toArray w (Ret X w φ)) (hE : entB P f = true)
    (hf : ev n F fo = .func (.func f) #[] #[]) (hxs : xs.map (ev n F) = al)
    (h : ∀ v w1, Evo X w w1 → φ v w1 → SQ P ops S n K r (putE d v F) w1) : SQ P ops S n K (.l ⟨d, .call ⟨.value fo, xs.toArray, ts⟩, ty, pos, af, g⟩ r) F w := by
  unfold SQ
  rw [if_pos hg]
  intro K' hK'
  unfold Oper.wp
  have hr : (execOp (ev n F) ⟨d, .call ⟨.value fo, xs.toArray, ts⟩, ty, pos, af, g⟩).run P w = .ok (.enter f al.toArray) w := by
    subst hxs
    simp [execOp, resolve, hf, Deferred.ofValue, invoke, run_callFunc hE]
  rw [Env.eval_act, hr]
  simp only [Oper.upon]
  refine hC.mono fun en w1 h1 => ?_
  cases en with
  | returned v =>
    simp only [Env.put_act]
    exact hK' _ _ (hS w1 h1.1) (h v w1 h1.1 h1.2)
  | panicked c => exact h1.elim
  | outgrown => exact h1.elim
/-- A function value that has captured something. -/
theorem l_callV {X : Nat → Prop} {φ : Value → World → Prop} {fo : Operand} {xs : List Operand} {ts : Array TypeId} {f : FuncId} {al cap : List Value} (hS : Keep S X w) (hg : gd ops n F g = true) (hC : Calls P f al.toArray w (Ret X w φ)) (hE : entB P f = true)
    (hf : ev n F fo = .func (.func f) #[] cap.toArray) (hxs : xs.map (ev n F) ++ cap = al)
    (h : ∀ v w1, Evo X w w1 → φ v w1 → SQ P ops S n K r (putE d v F) w1) : SQ P ops S n K (.l ⟨d, .call ⟨.value fo, xs.toArray, ts⟩, ty, pos, af, g⟩ r) F w := by
  unfold SQ
  rw [if_pos hg]
  intro K' hK'
  unfold Oper.wp
  have hr : (execOp (ev n F) ⟨d, .call ⟨.value fo, xs.toArray, ts⟩, ty, pos, af, g⟩).run P w = .ok (.enter f al.toArray) w := by
    subst hxs
    simp [execOp, resolve, hf, Deferred.ofValue, invoke, run_callFunc hE]
  rw [Env.eval_act, hr]
  simp only [Oper.upon]
  refine hC.mono fun en w1 h1 => ?_
  cases en with
  | returned v =>
    simp only [Env.put_act]
    exact hK' _ _ (hS w1 h1.1) (h v w1 h1.1 h1.2)
  | panicked c => exact h1.elim
  | outgrown => exact h1.elim
/-- The result lies in a variable. -/
theorem retCell {fn : Func} {R : Ending → World → Prop} {Q : Exit → Act → World → Prop} {a t k b T : Nat} {cs : List Value} (hr : fn.results = #[.cell a t]) (ha : F.look n a = .pointer (some ⟨b, 0, none⟩)) (hT : aggB P t = some k)
    (hb : Blk b cs T w) (hl : cs.length = k) (h : R (.returned (.agg cs.toArray)) w) : bodyPost P fn R .ret (Env.act n F) w := by
  refine retRun (.agg cs.toArray) ?_ h
  have hc := run_loadCells (P := P) (w := w) (b := b) (off := 0) k 0 #[] cs hl hb.cells
  have ha' : (Env.act n F).tmps.getD a undef = .pointer (some ⟨b, 0, none⟩) := by rw [Env.getD_act]; exact ha
  simp only [Array.getD_eq_getD_getElem?] at ha'
  simp only [results, hr]
  simp [ha', asAddr, loadVar, run_isAgg_agg hT, run_size (aggB_size hT), loadCells, hc]
end
end Go.Sx
