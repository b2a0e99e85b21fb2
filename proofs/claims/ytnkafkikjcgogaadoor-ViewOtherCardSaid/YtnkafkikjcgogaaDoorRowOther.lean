/- The law 'ViewOther' returns true for every argument, and its argument reads afterwards as it read before: no condition but what the given row lists (the nineteen sentinels as the program's text lays them). -/
import Derived.Test.YtnkafkikjcgogaaDoorCards
import Derived.Test.YtnkafkikjcgogaaDoorTie
import Derived.Test.YtnkafkikjcgogaaDoorSent
import Derived.Test.YtnkafkikjcgogaaDoorVwH
import Derived.WalkKit
import Derived.ProofKit
import Derived.OpenShut
import Derived.Deep.DeepHandedRow
import Derived.Deep.Strs
import Derived.Deep.Slices
import Derived.Deep.DeepWitnessRowRef
import Derived.LaidMore
import Derived.SizedLaws
import Derived.Lib.RowBridge
set_option linter.unusedVariables false
set_option linter.unusedSimpArgs false
namespace Go.Proofs.YtnkafkikjcgogaaDoor.viewOther
open Go.ChangeShapes Go.WideShapes Go.ChangeAt Go.RowKit Go.Sx

theorem own : ownKnob Tryd.prog.godebug = none := by kernel_rfl
theorem laidOut : laidOutB Tryd.prog = true := by kernel_rfl
theorem s31 : Tryd.prog.underlying 31 = some (.struct #[⟨"ID", 3, 0, false, "", "", 0⟩, ⟨"Base", 2, 1, false, "", "", 8⟩, ⟨"End", 2, 2, false, "", "", 16⟩, ⟨"Time", 2, 3, false, "", "", 24⟩, ⟨"Epochs", 28, 4, false, "", "", 32⟩, ⟨"Objects", 29, 5, false, "", "", 56⟩]) := by kernel_rfl
theorem s61 : Tryd.prog.underlying 61 = some (.struct #[⟨"Epoch", 3, 0, false, "", "", 0⟩, ⟨"Start", 2, 1, false, "", "", 8⟩]) := by kernel_rfl
theorem s46 : Tryd.prog.underlying 46 = some (.struct #[⟨"Name", 9, 0, false, "", "", 0⟩, ⟨"Len", 3, 1, false, "", "", 16⟩, ⟨"Sum", 44, 2, false, "", "", 24⟩]) := by kernel_rfl
theorem c2 : Tryd.prog.cellsOf 2 = 1 := by kernel_rfl
theorem c3 : Tryd.prog.cellsOf 3 = 1 := by kernel_rfl
theorem c9 : Tryd.prog.cellsOf 9 = 1 := by kernel_rfl
theorem c28 : Tryd.prog.cellsOf 28 = 1 := by kernel_rfl
theorem c29 : Tryd.prog.cellsOf 29 = 1 := by kernel_rfl
theorem c31 : Tryd.prog.cellsOf 31 = 6 := by kernel_rfl
theorem c44 : Tryd.prog.cellsOf 44 = 1 := by kernel_rfl
theorem c46 : Tryd.prog.cellsOf 46 = 3 := by kernel_rfl
theorem c61 : Tryd.prog.cellsOf 61 = 2 := by kernel_rfl
theorem u28 : Tryd.prog.underlying 28 = some (.slice 61) := by kernel_rfl
theorem u29 : Tryd.prog.underlying 29 = some (.slice 46) := by kernel_rfl
theorem u2 : Tryd.prog.underlying 2 = some (.int .i64) := by kernel_rfl
theorem u3 : Tryd.prog.underlying 3 = some (.int .i64) := by kernel_rfl
theorem u9 : Tryd.prog.underlying 9 = some .string := by kernel_rfl
theorem u44 : Tryd.prog.underlying 44 = some (.int .u32) := by kernel_rfl
theorem wf_bd {x : Int} (h : (Lit.int .i64 x).wf = true) : -9223372036854775808 ≤ x ∧ x ≤ 9223372036854775807 := by
  have h1 : IntKind.i64.min = -9223372036854775808 := rfl
  have h2 : IntKind.i64.max = 9223372036854775807 := rfl
  simpa [Lit.wf, h1, h2] using h
/-- What the world holds now it holds as long as nothing is turned. -/
theorem sl_at {k : Nat} {rows : List (List Value)} {a : Option Addr} {n c : Nat} {w : World} (h : Sl k rows a n c w) : At No w (Sl k rows a n c) := fun w' s =>
  ⟨h.len, h.cap, h.shape, h.one, h.nil, fun hc => ⟨(h.cells hc).1, fun j v hj => by
    have h1 := (h.cells hc).2 j v hj
    have hlt : ab a < w.heap.size := by
      rcases Nat.lt_or_ge (ab a) w.heap.size with h' | h'
      · exact h'
      · simp [World.cell?, Array.getElem?_eq_none h'] at h1
    unfold World.cell? at h1 ⊢
    rw [s.block (ab a) hlt id]
    exact h1⟩⟩
/-- A slice that came in: its elements read as rows. -/
theorem slice_in {H α : Type} [Inhabited α] {encD : TypeId × Value → H} {ex : α → List Value} {k t e : Nat} {W : World} {sp : Nat → Bool} (hsp : ∀ b, sp b = true) (ht : Tryd.prog.underlying t = some (.slice e)) (hc : Tryd.prog.cellsOf e = k) (hk : 0 < k)
    (hdec : ∀ n cs y, DataW.trod encD Tryd.prog W 0 sp true n e cs = some y → ∃ x, cs = ex x) (hlen : ∀ x, (ex x).length = k) (hone : ∀ x, (ex x).all (·.oneCell') = true) {fuel : Nat} {cs : List Value} {y : DataW H × List MemPlace}
    (h : DataW.trod encD Tryd.prog W 0 sp true fuel t cs = some y) : ∃ a len cap, ∃ xs : List α, cs = [.slice a len cap] ∧ Sl k (xs.map ex) a len cap W := by
  rcases Go.Deep.open_slice ht h with ⟨hcs, _⟩ | ⟨a, len, cap, m, n, D, Pl, hcs, hb, hl, hm, hmm, _, hx⟩
  · exact ⟨none, 0, 0, [], hcs, Sl.nul k W⟩
  · rw [hsp] at hmm
    simp only [if_true] at hmm
    subst hmm
    have each : ∀ i, i < m → ∃ x : α, W.cells? 0 (a.add (i * k)) k = some (ex x) := fun i hi => by
      obtain ⟨cs', h1, h2⟩ := hx i hi
      obtain ⟨x, rfl⟩ := hdec _ _ _ h2
      rw [hc] at h1
      exact ⟨x, h1⟩
    obtain ⟨f, hf⟩ := Go.Deep.choose_lt each
    refine ⟨some a, len, m, (List.range len).map f, hcs, ⟨by simp, hl, fun r hr => ?_, ?_, fun h => (by cases h), fun hcap => ?_⟩⟩
    · obtain ⟨x, _, rfl⟩ := List.mem_map.1 hr; exact hlen x
    · rw [List.all_eq_true]
      intro v hv
      obtain ⟨l, hl, hv⟩ := List.mem_flatten.1 hv
      obtain ⟨x, _, rfl⟩ := List.mem_map.1 hl
      exact List.all_eq_true.1 (hone x) v hv
    · obtain ⟨b, off, spot⟩ := a
      have hcell : ∀ i, i < m → ∀ j, j < k → W.cell? (((⟨b, off, spot⟩ : Addr).add (i * k)).add j) = (ex (f i))[j]? := fun i hi => (World.cells?_some (hf i hi)).2.2
      have hspot : spot = none := by
        have h0 := hcell 0 hcap 0 hk
        rw [List.getElem?_eq_getElem (by rw [hlen]; exact hk)] at h0
        simpa [Addr.add] using World.cell?_spot h0
      subst hspot
      refine ⟨rfl, fun j v hj => ?_⟩
      have hsh : ∀ r ∈ ((List.range len).map f).map ex, r.length = k := fun r hr => by obtain ⟨x, _, rfl⟩ := List.mem_map.1 hr; exact hlen x
      have hjl : j < len * k := by
        rcases Nat.lt_or_ge j (len * k) with h' | h'
        · exact h'
        · rw [List.getElem?_eq_none (by rw [flatten_len _ hsh]; simpa using h')] at hj; cases hj
      have hi : j / k < len := Nat.div_lt_of_lt_mul (by rw [Nat.mul_comm]; exact hjl)
      have hr : (((List.range len).map f).map ex)[j / k]? = some (ex (f (j / k))) := by
        rw [List.getElem?_map, List.getElem?_map, List.getElem?_range hi]; rfl
      have hv := List.getElem?_eq_getElem (l := ex (f (j / k))) (i := j % k) (by rw [hlen]; exact Nat.mod_lt _ hk)
      have h1 := flatten_at _ _ _ hsh hr _ _ hv
      rw [Nat.mul_comm, Nat.div_add_mod] at h1
      have h2 := hcell (j / k) (by omega) (j % k) (Nat.mod_lt _ hk)
      rw [Go.Deep.add_add, add_plain, Nat.mul_comm, Nat.div_add_mod, hv, ← h1, hj] at h2
      exact h2
instance : Inhabited Obj := ⟨⟨⟨#[]⟩, 0, 0⟩⟩
set_option maxRecDepth 100000 in
theorem pair_dec {H : Type} {encD : TypeId × Value → H} {W : World} {sp : Nat → Bool} (n : Nat) (cs : List Value) (y : DataW H × List MemPlace) (h : DataW.trod encD Tryd.prog W 0 sp true n 61 cs = some y) : ∃ x : Int × Int, cs = encP x := by
  obtain ⟨y0, y1, n, _, hl, h0, h1⟩ := trod_struct2 s61 h
  rw [c61] at hl
  match cs, hl with
  | [v0, v1], _ =>
    simp [c3, c2] at h0 h1
    obtain ⟨a, ha, _⟩ := DataW.trod_int u3 h0
    obtain ⟨b, hb, _⟩ := DataW.trod_int u2 h1
    simp only [List.cons.injEq, and_true] at ha hb
    exact ⟨(a, b), by rw [ha, hb]; rfl⟩
set_option maxRecDepth 100000 in
theorem obj_dec {H : Type} {encD : TypeId × Value → H} {W : World} {sp : Nat → Bool} (n : Nat) (cs : List Value) (y : DataW H × List MemPlace) (h : DataW.trod encD Tryd.prog W 0 sp true n 46 cs = some y) : ∃ x : Obj, cs = encO x := by
  obtain ⟨y0, y1, y2, n, _, hl, h0, h1, h2⟩ := Go.Deep.trod_struct3 s46 h
  rw [c46] at hl
  match cs, hl with
  | [v0, v1, v2], _ =>
    simp [c9, c3, c44] at h0 h1 h2
    obtain ⟨a, ha, _⟩ := DataW.trod_string u9 h0
    obtain ⟨b, hb, _⟩ := DataW.trod_int u3 h1
    obtain ⟨c, hc, _⟩ := DataW.trod_int u44 h2
    simp only [List.cons.injEq, and_true] at ha hb hc
    exact ⟨⟨a, b, c⟩, by rw [ha, hb, hc]; rfl⟩
theorem cells6 {cs : Array Value} (h : cs.size = 6) : ∃ a b c d e f, cs = #[a, b, c, d, e, f] := by
  obtain ⟨l⟩ := cs
  match l, h with
  | [a, b, c, d, e, f], _ => exact ⟨a, b, c, d, e, f, rfl⟩
set_option maxRecDepth 100000 in
/-- A manifest that came in. -/
theorem mani_in {H : Type} {encD : TypeId × Value → H} {W : World} {sp : Nat → Bool} (hsp : ∀ b, sp b = true) {fuel : Nat} {cs : Array Value} (hs : cs.size = 6) {x : DataW H × List MemPlace}
    (h : DataW.trod encD Tryd.prog W 0 sp true fuel 31 cs.toList = some x) : ∃ (m : Mani) (ea : Option Addr) (en ec : Nat) (oa : Option Addr) (on oc : Nat), cs = #[.int .i64 m.id, .int .i64 m.base, .int .i64 m.end_, .int .i64 m.time, .slice ea en ec, .slice oa on oc] ∧
      Sl 2 (m.epochs.map encP) ea en ec W ∧ Sl 3 (m.objects.map encO) oa on oc W := by
  obtain ⟨v0, v1, v2, v3, v4, v5, rfl⟩ := cells6 hs
  obtain ⟨xs, n, _, _, hl, hlen, hf⟩ := DataW.trod_struct s31 h
  match xs, hlen with
  | [y0, y1, y2, y3, y4, y5], _ =>
    have h0 := hf 0 _ rfl
    have h1 := hf 1 _ rfl
    have h2 := hf 2 _ rfl
    have h3 := hf 3 _ rfl
    have h4 := hf 4 _ rfl
    have h5 := hf 5 _ rfl
    simp [c3, c2, c28, c29] at h0 h1 h2 h3 h4 h5
    obtain ⟨a, ha, _⟩ := DataW.trod_int u3 h0
    obtain ⟨b, hb, _⟩ := DataW.trod_int u2 h1
    obtain ⟨c, hc, _⟩ := DataW.trod_int u2 h2
    obtain ⟨d, hd, _⟩ := DataW.trod_int u2 h3
    obtain ⟨ea, en, ec, es, he, hE⟩ := slice_in (ex := encP) hsp u28 c61 (by decide) pair_dec (fun _ => rfl) (fun _ => rfl) h4
    obtain ⟨oa, on, oc, os, ho, hO⟩ := slice_in (ex := encO) hsp u29 c46 (by decide) obj_dec (fun _ => rfl) (fun _ => rfl) h5
    simp only [List.cons.injEq, and_true] at ha hb hc hd he ho
    exact ⟨⟨a, b, c, d, es, os⟩, ea, en, ec, oa, on, oc, by rw [ha, hb, hc, hd, he, ho], hE, hO⟩

set_option maxRecDepth 100000 in
/-- WHAT THE WALK GIVES, FOR EVERY ARGUMENT AND EVERY WORLD THAT HOLDS THE SENTINELS. -/
theorem contract (H : Type) (enc : TypeId × Value → H) (W : World) (base : Nat) (args : Array Value) (ds gs : List (DataW H)) (before : List MemPlace)
    (hval : ∀ (j : Nat) t v, Tryd.f5.params[j]? = some t → args[j]? = some v → Value.okWide Tryd.prog W .any base t v)
    (hW : DataW.Whole enc Tryd.prog Tryd.f5.params.toList Rows.viewOtherSpec.vars false W args.toList ds gs before) (hL : laidMetH Tryd.prog Rows.viewOtherRow.laid W) :
    Calls Tryd.prog 5 args W fun e W' => ∃ v, e = .returned v ∧ Rows.viewOtherSpec.post enc Tryd.prog Tryd.f5 false true false false W args v W' := by
  have hW' := hW
  obtain ⟨p, q, hA0, hV, rfl, _, _⟩ := hW
  have hA : DataW.TrodAll enc Tryd.prog W 0 (fun _ => true) true Tryd.f5.params.toList args.toList ds p := hA0
  rw [Tryd.params5] at hA hval
  obtain ⟨v0, v1, v2, d0, d1, d2, p0, p1, p2, rfl, rfl, hp, h0, h1, h2⟩ := trodAll_three hA
  obtain ⟨rfl, rfl⟩ := trodVars_none hV
  obtain ⟨cs, rfl, hsz⟩ := okWide_struct s31 (hval 0 31 v0 rfl rfl)
  rw [c31] at hsz
  have h0k := h0
  obtain ⟨fuel, hf⟩ := h0
  obtain ⟨kind, rfl, _, _, hw1⟩ := open_int u3 (hval 1 3 v1 rfl rfl) h1
  obtain ⟨what, rfl, _, _, hw2⟩ := open_int u3 (hval 2 3 v2 rfl rfl) h2
  clear hA0
  simp only [List.append_nil] at hW'
  have hlt : ∀ y ∈ p, y.block < W.heap.size := fun y hy => by simpa using hW'.lt y (by simp [hy])
  have harg0 : ∀ W' : World, Below W.heap.size W W' → DataW.Trod enc Tryd.prog W' 0 (fun b => decide (b < W.heap.size)) true 31 (.agg cs) d0 p0 :=
    fun W' hn => Below.trod laidOut (by kernel_rfl) (of_decide_eq_true (by kernel_rfl)) h0k hn (fun y hy => hlt y (by rw [hp]; simp [hy]))
  have harg1 : ∀ W' : World, Below W.heap.size W W' → DataW.Trod enc Tryd.prog W' 0 (fun b => decide (b < W.heap.size)) true 3 (.int .i64 kind) d1 p1 :=
    fun W' hn => Below.trod laidOut (by kernel_rfl) (of_decide_eq_true (by kernel_rfl)) h1 hn (fun y hy => hlt y (by rw [hp]; simp [hy]))
  have harg2 : ∀ W' : World, Below W.heap.size W W' → DataW.Trod enc Tryd.prog W' 0 (fun b => decide (b < W.heap.size)) true 3 (.int .i64 what) d2 p2 :=
    fun W' hn => Below.trod laidOut (by kernel_rfl) (of_decide_eq_true (by kernel_rfl)) h2 hn (fun y hy => hlt y (by rw [hp]; simp [hy]))
  obtain ⟨m, ea, en, ec, oa, on, oc, rfl, hE, hO⟩ := mani_in (fun _ => rfl) hsz hf
  obtain ⟨bl, hG⟩ := gl_of_laid [6, 7, 3, 2, 4, 5, 8, 9, 10, 11, 12, 0, 1, 13, 14, 15, 16, 17, 18] hL (by kernel_rfl) (by kernel_rfl) (by decide)
  have hG' : At No W (Gl bl) := fun w' s => ⟨fun g hg => by
      have h1 := hG.cell g hg
      have hlt : g < W.heap.size := by
        rcases Nat.lt_or_ge g W.heap.size with h' | h'
        · exact h'
        · simp [World.cell?, Array.getElem?_eq_none h'] at h1
      unfold World.cell? at h1 ⊢
      rw [s.block g hlt id]
      exact h1, fun g hg => by
      obtain ⟨cs, T, h1⟩ := hG.blk g hg
      exact ⟨cs, T, (s.block _ (Array.getElem?_eq_some_iff.1 h1).1 id).trans h1⟩, hG.inj⟩
  refine (viewOther_c (M := No) W (Old.no _) bl hG' m ea en ec oa on oc (sl_at hE) (sl_at hO) kind what (wf_bd hw1).1 (wf_bd hw1).2 (wf_bd hw2).1 (wf_bd hw2).2).mono fun e W' h => ?_
  cases e with
  | returned v =>
    obtain ⟨s, rfl⟩ := h
    have hn := s.below
    exact ⟨_, rfl, _, _, _, [], _, [], hW', trodAll_mk1 (shut_bool Tryd.underlying4 _), trodAll_mk3 (harg0 _ hn) (harg1 _ hn) (harg2 _ hn), rfl, hn.frame _, fun h => by cases h⟩
  | panicked c => exact h.elim
  | outgrown => exact h.elim

noncomputable def laidWorld (os : Os) : World := World.doorLaid Tryd.prog 370 os
theorem laid_met (os : Os) : laidMet Tryd.prog Rows.viewOtherRow.laid ((laidWorld os).forCall (fun _ _ => 0) ⟨#[], #[.agg #[.int .i64 0, .int .i64 0, .int .i64 0, .int .i64 0, .slice none 0 0, .slice none 0 0], .int .i64 0, .int .i64 0], []⟩).memory :=
  laidMet_of_run' 8 (by kernel_rfl) (by kernel_rfl)
theorem reads (os : Os) {H : Type} (enc : TypeId × Value → H) : ∃ places, DataW.whole enc Tryd.prog ((laidWorld os).forCall (fun _ _ => 0) ⟨#[], #[.agg #[.int .i64 0, .int .i64 0, .int .i64 0, .int .i64 0, .slice none 0 0, .slice none 0 0], .int .i64 0, .int .i64 0], []⟩).memory Tryd.f5.params.toList Rows.viewOtherSpec.vars false (#[.agg #[.int .i64 0, .int .i64 0, .int .i64 0, .int .i64 0, .slice none 0 0, .slice none 0 0], .int .i64 0, .int .i64 0] : Array Value).toList 8 = some ([.agg [.lit (.int .i64 0), .lit (.int .i64 0), .lit (.int .i64 0), .lit (.int .i64 0), .nil, .nil], .lit (.int .i64 0), .lit (.int .i64 0)], [], places) :=
  ⟨[], by kernel_rfl⟩
set_option maxRecDepth 100000 in
theorem lifted (os : Os) (started : os.Started) (H : Type) (enc : TypeId × Value → H) (F : Stop.Interp) :
    ReturnsInHanded {} Tryd.checked os 5 .any ((OpenSpec.ofChange Rows.viewOtherSpec).preRow enc Tryd.prog Tryd.f5 Rows.viewOtherRow.domain false Rows.viewOtherRow.laid) (((OpenSpec.ofChange Rows.viewOtherSpec).at F).post enc Tryd.prog Tryd.f5 false true false false) := by
  obtain ⟨places, hx⟩ := reads os enc
  refine returnsInHanded_of_row (C := Tryd.checked) (s := OpenSpec.ofChange Rows.viewOtherSpec) own started (by kernel_rfl) Tryd.func5
    (witness_row_atRef (enc := enc) (C := Tryd.checked) false (laidWorld os) #[.agg #[.int .i64 0, .int .i64 0, .int .i64 0, .int .i64 0, .slice none 0 0, .slice none 0 0], .int .i64 0, .int .i64 0] rfl (by kernel_rfl) (by kernel_rfl) (by kernel_rfl)
      (OpenSpec.preRow_of_cond 8 hx (by kernel_rfl) (fun k hk => by cases hk) (by kernel_rfl) (laid_met os))) ?_
  intro W base args ds gs before hval hW _ _ _ hL _ _
  exact contract H enc W base args ds gs before hval hW hL
theorem said : Rows.ViewOtherSaid :=
  OpenClaim.holds_of_cond 5 Tryd.f5 rfl rfl rfl rfl rfl rfl rfl ⟨rfl, rfl, rfl, rfl, rfl⟩ rfl rfl rfl rfl rfl (by kernel_rfl) Tryd.func5 (by kernel_rfl)
    (of_decide_eq_true (by kernel_rfl)) (by unfold Func.isWrapper; first | (rw [if_pos (by decide +kernel)]; kernel_rfl) | (rw [if_neg (by decide +kernel)]; exact ⟨rfl, rfl⟩))
    (fun os started H enc _ F => by rw [OpenClaim.pre_eq_preRow]; exact lifted os started H enc F)
theorem plain (f : FuncId) (fn : Func) (hf : Tryd.pinned.checked.prog.funcNamed Rows.viewOtherRow.func = some f) (hfn : Tryd.pinned.checked.prog.funcs[f]? = some fn) :
    true = Tryd.pinned.checked.prog.looks [] ∧ ∀ (j : Nat) t, fn.params[j]? = some t → Tryd.pinned.checked.prog.wantsStandIn t = false := by
  obtain rfl : f = 5 := Option.some.inj ((show Tryd.prog.funcNamed Rows.viewOtherRow.func = some 5 by kernel_rfl).symm.trans hf) |>.symm
  obtain rfl : fn = Tryd.f5 := (Option.some.inj (Tryd.func5.symm.trans hfn)).symm
  refine ⟨by kernel_rfl, fun j t ht => ?_⟩
  rw [Tryd.params5] at ht
  have h0 : t = 31 ∨ t = 3 := by simpa using Array.mem_of_getElem? ht
  rcases h0 with rfl | rfl
  · exact (show Tryd.prog.wantsStandIn 31 = false by kernel_rfl)
  · exact (show Tryd.prog.wantsStandIn 3 = false by kernel_rfl)
/-- The card. -/
theorem card : Rows.ViewOtherCardSaid :=
  Claim7.holds_tied_plain_at .later [] _ _ _ _ said (fun _ h => by cases h) (by kernel_rfl) (fun _ h => by cases h) viewOther_row_tie rfl ⟨rfl, rfl⟩ (by kernel_rfl) rfl plain (by kernel_rfl)
end Go.Proofs.YtnkafkikjcgogaaDoor.viewOther
namespace Go.Proofs.YtnkafkikjcgogaaDoor
theorem viewOther_card : Rows.ViewOtherCardSaid := viewOther.card
end Go.Proofs.YtnkafkikjcgogaaDoor
