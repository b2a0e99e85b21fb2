/- Strings, conversions, bits: operations that only yield. No program in sight. -/
import Derived.Test.YtnkafkikjcgogaaDoorSxf
set_option linter.unusedVariables false
set_option linter.unusedSimpArgs false
namespace Go.Sx
open Go.RowKit
section
variable {P : Program} {ops : Array Oper} {S : World → Prop} {n : Nat} {K : Env → World → Prop} {F : Env} {w : World} {r : Tr}
variable {d : Option Tmp} {ty : TypeId} {pos : String} {af : Array Edge} {g : Option (Nat × Bool)}

theorem q_concat {x y : Operand} {t t' : TypeId} {a b : ByteArray} (hg : gd ops n F g = true) (hx : ev n F x = .string a) (hy : ev n F y = .string b) (hs : a.size + b.size ≤ 9223372036854775807)
    (h : SQ P ops S n K r (putE d (.string (a ++ b)) F) w) : SQ P ops S n K (.q ⟨d, .binOp .add t x y t', ty, pos, af, g⟩ r) F w :=
  q_run _ hg (fun _ _ => by
    have : ¬ (9223372036854775807 : Int) < ((a.size + b.size : Nat) : Int) := by omega
    simp [execOp, hx, hy, eqGuard, binOp, Op.stringOp, IntKind.max, IntKind.signed, IntKind.bits]
    omega) h
theorem q_strSlice {x y z : Operand} {t : TypeId} {s : ByteArray} {lo hi : Int} (hg : gd ops n F g = true) (hx : ev n F x = .string s) (hy : ev n F y = .int .i64 lo) (hz : ev n F z = .int .i64 hi) (hT : P.underlying t = some .string)
    (h0 : 0 ≤ lo) (h1 : lo ≤ hi) (h2 : hi ≤ s.size) (h : SQ P ops S n K r (putE d (.string (s.extract lo.toNat hi.toNat)) F) w) : SQ P ops S n K (.q ⟨d, .slice t x (some y) (some z) none, ty, pos, af, g⟩ r) F w :=
  q_run _ hg (fun _ _ => by
    have e1 : 0 ≤ hi ∧ hi ≤ (s.size : Int) := by omega
    have e2 : 0 ≤ lo ∧ lo ≤ max hi 0 := by omega
    simp [execOp, hx, hy, hz, Instr.sliceAt, Instr.slice, run_underlying hT, Instr.sliceBounds, Instr.sliceBound, asIntOf, e1, e2]) h
/-- An operator of one operand, by its run. -/
theorem q_un {o : UnOp} {x : Operand} {t : TypeId} {u v : Value} (hg : gd ops n F g = true) (hx : ev n F x = u) (hr : ∀ w', (Op.unary o u).run P w' = .ok v w')
    (h : SQ P ops S n K r (putE d v F) w) : SQ P ops S n K (.q ⟨d, .unOp o t x, ty, pos, af, g⟩ r) F w :=
  q_run _ hg (fun w' _ => by simp [execOp, hx, hr w']) h
/-- An operator of two whole numbers, by its run (not == and not !=). -/
theorem q_bin {o : BinOp} {x y : Operand} {t t' : TypeId} {u u' v : Value} (hg : gd ops n F g = true) (hx : ev n F x = u) (hy : ev n F y = u') (ho : (o matches .eql | .neq) = false) (hr : ∀ w', (binOp o t u u').run P w' = .ok v w')
    (h : SQ P ops S n K r (putE d v F) w) : SQ P ops S n K (.q ⟨d, .binOp o t x y t', ty, pos, af, g⟩ r) F w :=
  q_run _ hg (fun w' _ => by
    have : (eqGuard o t x y u u').run P w' = .ok () w' := by cases o <;> first | (cases ho; done) | rfl
    simp [execOp, hx, hy, this, hr w']) h
def intTB (P : Program) (t : TypeId) (k : IntKind) : Bool := match P.underlying t with | some (.int j) => j == k | _ => false
theorem q_convInt {x : Operand} {s t : TypeId} {j k : IntKind} {a c : Int} (hg : gd ops n F g = true) (hx : ev n F x = .int j a) (hs : P.underlying s = some (.int j)) (ht : P.underlying t = some (.int k)) (hc : k.wrap a = c)
    (h : SQ P ops S n K r (putE d (.int k c) F) w) : SQ P ops S n K (.q ⟨d, .convert s t x, ty, pos, af, g⟩ r) F w :=
  q_run _ hg (fun w' _ => by simp [execOp, hx, convert, run_underlying hs, run_underlying ht, Conv.intToInt, hc]) h
/-- Results, some of which lie in variables. -/
inductive ResOf (P : Program) (n : Nat) (F : Env) (w : World) : List ResultVar → List Value → Prop
  | nil : ResOf P n F w [] []
  | tmp {t : Tmp} {v : Value} {rs : List ResultVar} {vs : List Value} (h : F.look n t = v) (r : ResOf P n F w rs vs) : ResOf P n F w (.tmp t :: rs) (v :: vs)
  | cell {a t k b T : Nat} {cs : List Value} {rs : List ResultVar} {vs : List Value} (h : F.look n a = .pointer (some ⟨b, 0, none⟩)) (hT : aggB P t = some k) (hb : Blk b cs T w) (hl : cs.length = k) (r : ResOf P n F w rs vs) :
      ResOf P n F w (.cell a t :: rs) (.agg cs.toArray :: vs)
  | one {a t b T : Nat} {c : Value} {rs : List ResultVar} {vs : List Value} (h : F.look n a = .pointer (some ⟨b, 0, none⟩)) (hT : plainB P t = true) (hb : Blk b [c] T w) (r : ResOf P n F w rs vs) :
      ResOf P n F w (.cell a t :: rs) (c :: vs)
def resV (n : Nat) (F : Env) (r : ResultVar) : Sem Value := match r with
  | .tmp t => pure ((Env.act n F).tmps.getD t undef)
  | .cell a t => do loadVar t (← asAddr ((Env.act n F).tmps.getD a undef))
theorem run_resOf {P : Program} {n : Nat} {F : Env} {w : World} {rs : List ResultVar} {vs : List Value} (h : ResOf P n F w rs vs) : (rs.mapM (resV n F)).run P w = .ok vs w := by
  induction h with
  | nil => rfl
  | tmp h _ ih =>
    rw [List.mapM_cons]
    simp only [resV, Sem.run_bind, Env.getD_act, h] at ih ⊢
    simp only [Sem.run_pure, Result.andThen, ih]
  | @cell a t k b T cs rs vs h hT hb hl _ ih =>
    rw [List.mapM_cons]
    have hc := run_loadCells (P := P) (w := w) (b := b) (off := 0) k 0 #[] cs hl hb.cells
    simp only [resV, Sem.run_bind, Env.getD_act, h] at ih ⊢
    simp only [asAddr, loadVar, Sem.run_bind, Sem.run_pure, Result.andThen, run_isAgg_agg hT, run_size (aggB_size hT), loadCells, hc, ih, if_true]
    simp
  | @one a t b T c rs vs h hT hb _ ih =>
    rw [List.mapM_cons]
    have hc := hb.cell 0
    simp only [resV, Sem.run_bind, Env.getD_act, h] at ih ⊢
    simp [asAddr, loadVar, run_isAgg_plain hT, hc, ih, Result.andThen]
theorem retMix {fn : Func} {R : Ending → World → Prop} {rs : List ResultVar} {vs : List Value} (hr : fn.results = rs.toArray) (hn : (vs.length == 1) = false) (h : ResOf P n F w rs vs) (hR : R (.returned (.tuple vs.toArray)) w) :
    bodyPost P fn R .ret (Env.act n F) w := by
  refine retRun (.tuple vs.toArray) ?_ hR
  have h1 := run_resOf h
  have hn' : vs.length ≠ 1 := by simpa using hn
  have he : results fn (Env.act n F).tmps = (do let vs ← fn.results.mapM (resV n F); pure (if h : vs.size = 1 then vs[0] else .tuple vs)) := rfl
  have h2 : Sem.run P (List.toArray <$> List.mapM (resV n F) rs) w = .ok vs.toArray w := by
    show Sem.run P (List.mapM (resV n F) rs >>= fun x => pure x.toArray) w = _
    rw [Sem.run_bind, h1]; rfl
  rw [he, hr, List.mapM_toArray, Sem.run_bind, h2]
  simp [Result.andThen, hn']
end
end Go.Sx
