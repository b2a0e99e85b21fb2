/- The law 'ViewLives' returns true for every argument, and its argument reads afterwards as it read before: no condition but what the given row lists (the nineteen sentinels as the program's text lays them). -/
import Derived.Test.YtnkafkikjcgogaaDoorCards
import Derived.Test.YtnkafkikjcgogaaDoorTie
import Derived.Test.YtnkafkikjcgogaaDoorSent
import Derived.Test.YtnkafkikjcgogaaDoorVwC
import Derived.WalkKit
import Derived.ProofKit
import Derived.OpenShut
import Derived.Deep.DeepHandedRow
import Derived.Deep.DeepWitnessRowRef
import Derived.LaidMore
import Derived.SizedLaws
import Derived.Lib.RowBridge
set_option linter.unusedVariables false
set_option linter.unusedSimpArgs false
namespace Go.Proofs.YtnkafkikjcgogaaDoor.viewLives
open Go.ChangeShapes Go.WideShapes Go.ChangeAt Go.RowKit Go.Sx

theorem own : ownKnob Tryd.prog.godebug = none := by kernel_rfl
theorem laidOut : laidOutB Tryd.prog = true := by kernel_rfl
theorem cellsE : Tryd.prog.cellsOf 3 = 1 := by kernel_rfl
theorem wf_bd {x : Int} (h : (Lit.int .i64 x).wf = true) : -9223372036854775808 ≤ x ∧ x ≤ 9223372036854775807 := by
  have h1 : IntKind.i64.min = -9223372036854775808 := rfl
  have h2 : IntKind.i64.max = 9223372036854775807 := rfl
  simpa [Lit.wf, h1, h2] using h
/-- What the world holds now it holds as long as nothing is turned. -/
theorem sl_at {k : Nat} {rows : List (List Value)} {a : Option Addr} {n c : Nat} {w : World} (h : Sl k rows a n c w) : At No w (Sl k rows a n c) := fun w' s =>
  ⟨h.len, h.cap, h.shape, h.one, h.nil, fun hc => ⟨(h.cells hc).1, fun j v hj => by
    have h1 := (h.cells hc).2 j v hj
    have hlt : ab a < w.heap.size := by
      rcases Nat.lt_or_ge (ab a) w.heap.size with h' | h'
      · exact h'
      · simp [World.cell?, Array.getElem?_eq_none h'] at h1
    unfold World.cell? at h1 ⊢
    rw [s.block (ab a) hlt id]
    exact h1⟩⟩
/-- A slice of whole numbers that came in. -/
theorem ints_in {H : Type} {enc : TypeId × Value → H} {W : World} {sp : Nat → Bool} (hsp : ∀ b, sp b = true) {fuel : Nat} {a0 : Option Addr} {len cap : Nat} {x : DataW H × List MemPlace}
    (h : DataW.trod enc Tryd.prog W 0 sp true fuel 22 [.slice a0 len cap] = some x) : ∃ ids : List Int, Sl 1 (ids.map encI) a0 len cap W ∧ ∀ x ∈ ids, -9223372036854775808 ≤ x ∧ x ≤ 9223372036854775807 := by
  rcases open_ints Tryd.underlying22 Tryd.underlying3 cellsE h with ⟨hcs, hx⟩ | ⟨a, len', cap', zs, hcs, _, hl, hmx, hz, hx, hcell, hwz⟩
  · simp only [List.cons.injEq, Value.slice.injEq, and_true] at hcs
    obtain ⟨rfl, rfl, rfl⟩ := hcs
    exact ⟨[], Sl.nul 1 W, by simp⟩
  · simp only [List.cons.injEq, Value.slice.injEq, and_true] at hcs
    obtain ⟨rfl, rfl, rfl⟩ := hcs
    rw [hsp] at hz
    simp only [if_true] at hz
    refine ⟨zs.take len, ⟨by simp; omega, hl, fun r hr => ?_, ?_, fun h => (by cases h), fun hc => ?_⟩, fun x hx => wf_bd (hwz x (List.mem_of_mem_take hx))⟩
    · obtain ⟨y, _, rfl⟩ := List.mem_map.1 hr; rfl
    · rw [List.all_eq_true]
      intro v hv
      obtain ⟨l, hl, hv⟩ := List.mem_flatten.1 hv
      obtain ⟨y, _, rfl⟩ := List.mem_map.1 hl
      simp only [encI, List.mem_singleton] at hv
      subst hv; rfl
    · obtain ⟨b, off, spot⟩ := a
      have hspot : spot = none := by simpa [Addr.add] using World.cell?_spot (hcell 0 (by omega))
      subst hspot
      refine ⟨rfl, fun j v hj => ?_⟩
      have hfl : ((zs.take len).map encI).flatten = (zs.take len).map fun x => Value.int .i64 x := by
        induction zs.take len with
        | nil => rfl
        | cons y r ih => rw [List.map_cons, List.flatten_cons, ih]; rfl
      rw [hfl, List.getElem?_map] at hj
      cases hy : (zs.take len)[j]? with
      | none => rw [hy] at hj; cases hj
      | some y =>
        rw [hy] at hj
        simp only [Option.map_some, Option.some.injEq] at hj
        subst hj
        have hjl : j < len := by
          rcases Nat.lt_or_ge j len with h' | h'
          · exact h'
          · rw [List.getElem?_eq_none (by simp; omega)] at hy; cases hy
        rw [List.getElem?_take_of_lt hjl] at hy
        have := hcell j (by omega)
        rw [add_plain] at this
        show W.cell? ⟨b, off + j, none⟩ = _
        rw [this, List.getD_eq_getElem?_getD, hy]; rfl

set_option maxRecDepth 100000 in
/-- WHAT THE WALK GIVES, FOR EVERY ARGUMENT AND EVERY WORLD THAT HOLDS THE SENTINELS. -/
theorem contract (H : Type) (enc : TypeId × Value → H) (W : World) (base : Nat) (args : Array Value) (ds gs : List (DataW H)) (before : List MemPlace)
    (hval : ∀ (j : Nat) t v, Tryd.f4.params[j]? = some t → args[j]? = some v → Value.okWide Tryd.prog W .any base t v)
    (hW : DataW.Whole enc Tryd.prog Tryd.f4.params.toList Rows.viewLivesSpec.vars false W args.toList ds gs before) (hL : laidMetH Tryd.prog Rows.viewLivesRow.laid W) :
    Calls Tryd.prog 4 args W fun e W' => ∃ v, e = .returned v ∧ Rows.viewLivesSpec.post enc Tryd.prog Tryd.f4 false true false false W args v W' := by
  have hW' := hW
  obtain ⟨p, q, hA0, hV, rfl, _, _⟩ := hW
  have hA : DataW.TrodAll enc Tryd.prog W 0 (fun _ => true) true Tryd.f4.params.toList args.toList ds p := hA0
  rw [Tryd.params4] at hA hval
  obtain ⟨v0, d0, rfl, rfl, h0⟩ := trodAll_one hA
  obtain ⟨rfl, rfl⟩ := trodVars_none hV
  obtain ⟨a0, len, cap, rfl⟩ := okWide_slice Tryd.underlying22 (hval 0 22 v0 rfl rfl)
  have h0k := h0
  obtain ⟨fuel, hf⟩ := h0
  clear hA0
  simp only [List.append_nil] at hW'
  have hlt : ∀ y ∈ p, y.block < W.heap.size := fun y hy => by simpa using hW'.lt y (by simp [hy])
  have harg0 : ∀ W' : World, Below W.heap.size W W' → DataW.Trod enc Tryd.prog W' 0 (fun b => decide (b < W.heap.size)) true 22 (.slice a0 len cap) d0 p :=
    fun W' hn => Below.trod laidOut (by kernel_rfl) (of_decide_eq_true (by kernel_rfl)) h0k hn hlt
  obtain ⟨ids, hS, hids⟩ := ints_in (fun _ => rfl) hf
  obtain ⟨bl, hG⟩ := gl_of_laid [6, 7, 3, 2, 4, 5, 8, 9, 10, 11, 12, 0, 1, 13, 14, 15, 16, 17, 18] hL (by kernel_rfl) (by kernel_rfl) (by decide)
  have hG' : At No W (Gl bl) := fun w' s => ⟨fun g hg => by
      have h1 := hG.cell g hg
      have hlt : g < W.heap.size := by
        rcases Nat.lt_or_ge g W.heap.size with h' | h'
        · exact h'
        · simp [World.cell?, Array.getElem?_eq_none h'] at h1
      unfold World.cell? at h1 ⊢
      rw [s.block g hlt id]
      exact h1, fun g hg => by
      obtain ⟨cs, T, h1⟩ := hG.blk g hg
      exact ⟨cs, T, (s.block _ (Array.getElem?_eq_some_iff.1 h1).1 id).trans h1⟩, hG.inj⟩
  refine (viewLives_c (M := No) W (Old.no _) bl hG' ids hids a0 len cap (sl_at hS)).mono fun e W' h => ?_
  cases e with
  | returned v =>
    obtain ⟨s, rfl⟩ := h
    have hn := s.below
    exact ⟨_, rfl, _, _, _, [], _, [], hW', trodAll_mk1 (shut_bool Tryd.underlying4 _), trodAll_mk1 (harg0 _ hn), rfl, hn.frame _, fun h => by cases h⟩
  | panicked c => exact h.elim
  | outgrown => exact h.elim

noncomputable def laidWorld (os : Os) : World := World.doorLaid Tryd.prog 370 os
theorem laid_met (os : Os) : laidMet Tryd.prog Rows.viewLivesRow.laid ((laidWorld os).forCall (fun _ _ => 0) ⟨#[], #[.slice none 0 0], []⟩).memory :=
  laidMet_of_run' 8 (by kernel_rfl) (by kernel_rfl)
theorem reads (os : Os) {H : Type} (enc : TypeId × Value → H) : ∃ places, DataW.whole enc Tryd.prog ((laidWorld os).forCall (fun _ _ => 0) ⟨#[], #[.slice none 0 0], []⟩).memory Tryd.f4.params.toList Rows.viewLivesSpec.vars false #[Value.slice none 0 0].toList 8 = some ([.nil], [], places) :=
  ⟨[], by kernel_rfl⟩
set_option maxRecDepth 100000 in
theorem lifted (os : Os) (started : os.Started) (H : Type) (enc : TypeId × Value → H) (F : Stop.Interp) :
    ReturnsInHanded {} Tryd.checked os 4 .any ((OpenSpec.ofChange Rows.viewLivesSpec).preRow enc Tryd.prog Tryd.f4 Rows.viewLivesRow.domain false Rows.viewLivesRow.laid) (((OpenSpec.ofChange Rows.viewLivesSpec).at F).post enc Tryd.prog Tryd.f4 false true false false) := by
  obtain ⟨places, hx⟩ := reads os enc
  refine returnsInHanded_of_row (C := Tryd.checked) (s := OpenSpec.ofChange Rows.viewLivesSpec) own started (by kernel_rfl) Tryd.func4
    (witness_row_atRef (enc := enc) (C := Tryd.checked) false (laidWorld os) #[.slice none 0 0] rfl (by kernel_rfl) (by kernel_rfl) (by kernel_rfl)
      (OpenSpec.preRow_of_cond 8 hx (by kernel_rfl) (fun k hk => by cases hk) (by kernel_rfl) (laid_met os))) ?_
  intro W base args ds gs before hval hW _ _ _ hL _ _
  exact contract H enc W base args ds gs before hval hW hL
theorem said : Rows.ViewLivesSaid :=
  OpenClaim.holds_of_cond 4 Tryd.f4 rfl rfl rfl rfl rfl rfl rfl ⟨rfl, rfl, rfl, rfl, rfl⟩ rfl rfl rfl rfl rfl (by kernel_rfl) Tryd.func4 (by kernel_rfl)
    (of_decide_eq_true (by kernel_rfl)) (by unfold Func.isWrapper; first | (rw [if_pos (by decide +kernel)]; kernel_rfl) | (rw [if_neg (by decide +kernel)]; exact ⟨rfl, rfl⟩))
    (fun os started H enc _ F => by rw [OpenClaim.pre_eq_preRow]; exact lifted os started H enc F)
theorem plain (f : FuncId) (fn : Func) (hf : Tryd.pinned.checked.prog.funcNamed Rows.viewLivesRow.func = some f) (hfn : Tryd.pinned.checked.prog.funcs[f]? = some fn) :
    true = Tryd.pinned.checked.prog.looks [] ∧ ∀ (j : Nat) t, fn.params[j]? = some t → Tryd.pinned.checked.prog.wantsStandIn t = false := by
  obtain rfl : f = 4 := Option.some.inj ((show Tryd.prog.funcNamed Rows.viewLivesRow.func = some 4 by kernel_rfl).symm.trans hf) |>.symm
  obtain rfl : fn = Tryd.f4 := (Option.some.inj (Tryd.func4.symm.trans hfn)).symm
  refine ⟨by kernel_rfl, fun j t ht => ?_⟩
  rw [Tryd.params4] at ht
  obtain rfl : t = 22 := by simpa using Array.mem_of_getElem? ht
  exact (show Tryd.prog.wantsStandIn 22 = false by kernel_rfl)
/-- The card. -/
theorem card : Rows.ViewLivesCardSaid :=
  Claim7.holds_tied_plain_at .later [] _ _ _ _ said (fun _ h => by cases h) (by kernel_rfl) (fun _ h => by cases h) viewLives_row_tie rfl ⟨rfl, rfl⟩ (by kernel_rfl) rfl plain (by kernel_rfl)
end Go.Proofs.YtnkafkikjcgogaaDoor.viewLives
namespace Go.Proofs.YtnkafkikjcgogaaDoor
theorem viewLives_card : Rows.ViewLivesCardSaid := viewLives.card
end Go.Proofs.YtnkafkikjcgogaaDoor
