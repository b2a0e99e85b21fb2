/- A view's IDs, rising: the shelf's contracts in the engine's words. -/
import Derived.Test.YtnkafkikjcgogaaDoorShK
import Derived.Test.YtnkafkikjcgogaaDoorVmod
set_option linter.unusedVariables false
set_option linter.unusedSimpArgs false
set_option maxRecDepth 100000
namespace Go.Proofs.YtnkafkikjcgogaaDoor
open Go.Sx Go.RowKit Go.Maps Go.Sort Go.Shelf Go.WideElems

abbrev fKeys : Nat := 38
abbrev fKeys1 : Nat := 62
abbrev fSorted : Nat := 37
abbrev tIntT : Nat := 3
abbrev noR : Value → Option (DataW Unit × List MemPlace) := fun _ => some (.nil, [])
/-- IDs, rising. -/
def sortI (l : List Int) : List Int := l.mergeSort leI
theorem map_owns {bm : Nat} {L : List (Int × Value)} {w : World} (h : MapB bm L w) (hk : ∀ p ∈ L, 0 ≤ p.1 ∧ p.1 ≤ 2147483647) (hl : L.length ≤ 4096) :
    ∃ D : DataW Unit, w.ownsMap Tryd.prog tIntT noR bm 4096 D ∧ (intKeys D).Perm (L.map (·.1)) ∧ Maps.size D ≤ 4096 := by
  obtain ⟨es, clk, hb, hM⟩ := h
  have hlen : es.size = L.length := by rw [← hM.val]; simp
  have hrd : ∀ x ∈ es.toList, WideElems.rd (H := Unit) Tryd.prog tIntT noR x = some (.int .i64 (dec x).1, .nil) := fun x hx => by
    have h1 := hM.key x hx
    have h2 := hk (dec x) (by rw [← hM.val]; exact List.mem_map.2 ⟨x, hx, rfl⟩)
    have hw : (Lit.int .i64 (dec x).1).wf = true := by
      have a1 : IntKind.i64.min = -9223372036854775808 := rfl
      have a2 : IntKind.i64.max = 9223372036854775807 := rfl
      simp only [Lit.wf, a1, a2, Bool.and_eq_true, decide_eq_true_eq]; omega
    unfold WideElems.rd
    have : keyOf Tryd.prog tIntT x.key = some (.int .i64 (dec x).1) := by
      rw [h1]
      simp [keyOf, mapKey, Tryd.underlying3, hw]
    rw [this]; rfl
  refine ⟨.map ((es.toList.map (rg Tryd.prog tIntT noR)).foldr DataW.insert []), ⟨es, clk, hb, ⟨by rw [hlen]; unfold maxLen; omega, hM.st, fun x hx => ⟨_, hrd x hx⟩⟩, by omega, rfl⟩, ?_, ?_⟩
  · show (((es.toList.map (rg Tryd.prog tIntT noR)).foldr DataW.insert []).map fun p => Go.intOf p.1).Perm _
    refine ((Go.WideShapes.sorted_perm _).map _).trans ?_
    rw [List.map_map, ← hM.val, List.map_map]
    have : es.toList.map ((fun p : Lit × DataW Unit => Go.intOf p.1) ∘ rg Tryd.prog tIntT noR) = es.toList.map ((fun p : Int × Value => p.1) ∘ dec) := List.map_congr_left fun x hx => by
      show Go.intOf (rg Tryd.prog tIntT noR x).1 = _
      rw [rg_of (hrd x hx)]; rfl
    rw [this]
  · show ((es.toList.map (rg Tryd.prog tIntT noR)).foldr DataW.insert []).length ≤ 4096
    rw [(Go.WideShapes.sorted_perm _).length_eq]
    simp; omega

theorem keys_c (w : World) {M : Nat → Prop} (hM : Old M w) (bm : Nat) :
    Calls Tryd.prog fKeys (List.toArray [.map (some bm)]) w (Ret No w fun v w' => ∃ b, v = .func (.func fKeys1) #[] #[.pointer (some ⟨b, 0, none⟩)] ∧ Blk b [.map (some bm)] (keysV_ren.t 23) w' ∧ w.heap.size ≤ b) := by
  have h := (callsIn_wide (n := 6)).1 (AnyZI.keys_in keysV Fence.wide 6 trivial rfl (some bm) w)
  change Calls Tryd.prog fKeys _ _ _ at h
  refine h.mono fun e w' h => ?_
  obtain ⟨rfl, rfl⟩ := h
  exact ⟨Evo.alloc w _, _, rfl, Blk.new w _ _, Nat.le_refl _⟩
theorem sortsV (m : Nat) : AnyZI.SortsIn Tryd.prog sortedV_ren Fence.wide m :=
  ⟨fun blk off cap ss W hH hblk hsz => callsIn_wide.2 (AnyM.slices_Sort_int sortV blk off cap ss W hH hblk hsz),
   fun p cap W => callsIn_wide.2 (AnyM.slices_Sort_int_none sortV p cap W)⟩
theorem below_evo {w w' : World} (h : Below w.heap.size w w') : Evo No w w' := ⟨h.os, h.tape, h.output, h.size, Nat.le_refl 0, fun b hb _ => h.block b hb⟩
theorem own_of_row {w' : World} {base e n : Nat} {v : Value} {zs : List Int} (h : w'.ownsRow base e 1 v n (zs.map encZ)) : ∃ a m c, v = .slice a m c ∧ Own 1 e (zs.map encI) a m c w' ∧ ∀ x, OwnB a x → base ≤ x := by
  have hfl : ∀ zs : List Int, (zs.map encI).flatten = zs.map encZ := fun zs => by
    induction zs with
    | nil => rfl
    | cons y r ih => rw [List.map_cons, List.flatten_cons, ih]; rfl
  have hone : ((zs.map encI).flatten).all (·.oneCell') = true := by
    rw [hfl, List.all_eq_true]
    intro v hv
    obtain ⟨x, _, rfl⟩ := List.mem_map.1 hv; rfl
  have hsh : ∀ r ∈ zs.map encI, r.length = 1 := fun r hr => by
    obtain ⟨x, _, rfl⟩ := List.mem_map.1 hr; rfl
  obtain ⟨h1, h2⟩ := h
  rw [List.length_map, Nat.mul_one] at h1
  rcases h2 with ⟨rfl, rfl⟩ | ⟨g, cap, cur, rfl, hg, hb, hn, _, hc, ht⟩
  · have : zs = [] := List.eq_nil_of_length_eq_zero h1
    subst this
    exact ⟨none, 0, 0, rfl, Own.nil _ _ _, own_lo_none⟩
  · refine ⟨_, _, _, rfl, ⟨by rw [List.length_map]; omega, hsh, hone, .inr ⟨cur.toList, rfl, by unfold Blk; rw [Array.toArray_toList]; exact hb, by simpa using hc, hn, by rw [ht, hfl]⟩⟩, fun x hx => ?_⟩
    rw [hx.2]; exact hg
theorem sorted_c (w : World) {M : Nat → Prop} (hM : Old M w) (b bm : Nat) (L : List (Int × Value)) (hB : Blk b [.map (some bm)] (keysV_ren.t 23) w) (hL : MapB bm L w) (hk : ∀ p ∈ L, 0 ≤ p.1 ∧ p.1 ≤ 2147483647) (hl : L.length ≤ 4096) :
    Calls Tryd.prog fSorted (List.toArray [.func (.func fKeys1) #[] #[.pointer (some ⟨b, 0, none⟩)]]) w (Ret No w fun v w' => ∃ a n c, v = .slice a n c ∧ Own 1 tIntT ((sortI (L.map (·.1))).map encI) a n c w' ∧ ∀ x, OwnB a x → w.heap.size ≤ x) := by
  obtain ⟨D, hown, hperm, hsz⟩ := map_owns hL hk hl
  have hseq : SeqGives Fence.wide 2 Tryd.prog fKeys1 #[.pointer (some ⟨b, 0, none⟩)] encZ (fun ss => ss.Perm (intKeys D)) (Maps.size D) w :=
    AnyZI.keys_gives (ρ := keysV_ren) { keysV with } Fence.wide _ trivial rfl (by omega) b bm 4096 D w hB.lt (hB.cell 0) hown
  have h := (callsIn_wide (n := 5)).1 (AnyZI.sorted_in sortedV Fence.wide 5 trivial trivial trivial trivial rfl (by omega) (sortsV _) (fun args w => run_callFunc (by kernel_rfl) args w) fKeys1 #[.pointer (some ⟨b, 0, none⟩)] trivial (fun args w => run_callFunc (by kernel_rfl) args w) _ _ (by unfold maxLen; omega) (by omega) _ hseq)
  change Calls Tryd.prog fSorted _ _ _ at h
  refine h.mono fun e w' h => ?_
  obtain ⟨v, ss, rfl, hS, hrow, hnil, hb⟩ := h
  have hs : ss.mergeSort (fun x y => decide (x ≤ y)) = sortI (L.map (·.1)) := mergeSort_of_perm_i (hS.trans hperm)
  rw [hs] at hrow
  obtain ⟨a, m, c, rfl, h1, h2⟩ := own_of_row hrow
  exact ⟨below_evo hb, a, m, c, rfl, h1, h2⟩
end Go.Proofs.YtnkafkikjcgogaaDoor
