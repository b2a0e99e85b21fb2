/- What a row that lists the sentinels gives: each variable holds a pointer of its own. -/
import Derived.Test.YtnkafkikjcgogaaDoorMod
import Derived.Test.YtnkafkikjcgogaaDoorRows
import Derived.LaidLaws
import Derived.LaidMore
set_option maxRecDepth 100000
namespace Go.Proofs.YtnkafkikjcgogaaDoor
open Go.Sx Go.RowKit Go.ChangeShapes

/-- The listed variables are sentinels, by number. -/
def senB (P : Program) (ti : TypeId) (nm : String) : List (String × DataW Unit) → List Nat → Bool
  | [], [] => true
  | (n, .iface nm' (.ptr (.agg [.lit (.string _)]))) :: r, g :: gs => decide (nm' = nm) && decide (P.globalNamed n = some g) && decide ((P.globals[g]?).map (·.type) = some ti) && senB P ti nm r gs
  | _, _ => false
theorem senB_cons {P : Program} {ti : TypeId} {nm : String} {x : String × DataW Unit} {r : List (String × DataW Unit)} {gs : List Nat} (h : senB P ti nm (x :: r) gs = true) :
    ∃ n text g gr, x = (n, .iface nm (.ptr (.agg [.lit (.string text)]))) ∧ gs = g :: gr ∧ P.globalNamed n = some g ∧ (P.globals[g]?).map (·.type) = some ti ∧ senB P ti nm r gr = true := by
  unfold senB at h
  split at h
  · rename_i h0; cases h0
  · rename_i n nm' text r' g gr h1
    cases h1
    simp only [Bool.and_eq_true, decide_eq_true_eq] at h
    obtain ⟨⟨⟨rfl, h2⟩, h3⟩, h4⟩ := h
    exact ⟨n, text, g, gr, rfl, rfl, h2, h3, h4⟩
  · cases h

theorem laid_sens {P : Program} {W : World} {ti tp te ts : TypeId} {ms : Array (String × TypeId)} {nm : String} {f : Field}
    (hi : P.underlying ti = some (.interface ms)) (hrow : ∀ u, P.typeName? 3 u = some nm → u = tp)
    (hp : P.underlying tp = some (.pointer te)) (he : P.underlying te = some (.struct #[f])) (hft : f.type = ts) (hfo : f.offset = 0) (hs : P.underlying ts = some .string) (hc : P.cellsOf te = 1) (hcs : P.cellsOf ts = 1) :
    ∀ (L : List (String × DataW Unit)) (gs : List Nat) (ps : List MemPlace), DataW.LaidVars P W L ps → senB P ti nm L gs = true →
      (∀ b off, MemPlace.cell b off ∈ ps → (∃ c t, W.heap[b]? = some (.cells c t (0, 0))) ∧ ∀ u v, W.cell? ⟨b, off, none⟩ = some (.iface u v) → Value.okWide P W .any 0 u v) →
      ∃ aa : List Addr, aa.length = gs.length ∧ (∀ (i : Nat) (g : Nat) (a : Addr), gs[i]? = some g → aa[i]? = some a → W.cell? ⟨g, 0, none⟩ = some (.iface tp (.pointer (some a))) ∧ ∃ c t, W.heap[a.block]? = some (.cells c t (0, 0))) ∧
        (aa.map fun a => MemPlace.cell a.block a.off).Sublist ps
  | [], gs, ps, h, hb, _ => by
    have : gs = [] := by cases gs <;> simp_all [senB]
    subst this
    exact ⟨[], rfl, by simp, by simp⟩
  | x :: r, gs, ps, h, hb, hok => by
    obtain ⟨n, text, g, gr, rfl, rfl, hg, ht, hb'⟩ := senB_cons hb
    obtain ⟨g0, t0, cs0, f0, p0, q0, hg0, ht0, hv0, hd0, hr0, e0⟩ := h
    obtain rfl := Option.some.inj (hg.symm.trans hg0)
    obtain rfl := Option.some.inj (ht.symm.trans ht0)
    subst e0
    obtain ⟨l0⟩ := cs0
    have ok0 : ∀ u v, l0 = [.iface u v] → Value.okWide P W .any 0 u v := fun u v e => by
      subst e
      exact (hok g 0 (by simp [MemPlace.row])).2 u v (by simpa using World.var?_cell hg0 hv0 0)
    obtain ⟨a0, s0, rfl, hc0, hs0, hz0, rfl⟩ := errorString_of_trod hi hrow hp he hft hfo hs hc hcs hd0 ok0
    obtain ⟨aa, h1, h2, h3⟩ := laid_sens hi hrow hp he hft hfo hs hc hcs r gr q0 hr0 hb' fun b off hm => hok b off (List.mem_append_right _ hm)
    refine ⟨a0 :: aa, by simp [h1], ?_, ?_⟩
    · intro i g' a hgi hai
      cases i with
      | zero =>
        simp only [List.getElem?_cons_zero, Option.some.injEq] at hgi hai
        subst hgi hai
        exact ⟨by simpa using World.var?_cell hg0 hv0 0, (hok a0.block a0.off (by simp [MemPlace.row])).1⟩
      | succ i => exact h2 i g' a (by simpa using hgi) (by simpa using hai)
    · rw [List.map_cons]
      refine List.Sublist.trans ?_ (List.append_sublist_append_right q0 |>.2 (List.sublist_append_right (MemPlace.row ⟨g, 0, none⟩ 1) (MemPlace.row a0 1)))
      show List.Sublist ([MemPlace.cell a0.block a0.off] ++ aa.map fun a => MemPlace.cell a.block a.off) _
      have : MemPlace.row a0 1 = [MemPlace.cell a0.block a0.off] := by simp [MemPlace.row]
      rw [this]
      exact List.append_sublist_append_left _ |>.2 h3

/-- The sentinels, out of the row's list. -/
theorem gl_of_laid {W : World} {L : List (String × DataW Unit)} (gs : List Nat) (hL : laidMetH Tryd.prog L W) (hf : (L.filter fun x => x.2.handleName?.isSome) = []) (hb : senB Tryd.prog 34 "*errors.errorString" L gs = true)
    (hg : (List.range 19).all (gs.contains ·) = true) : ∃ bl, Gl bl W := by
  unfold laidMetH at hL
  rw [hf] at hL
  obtain ⟨ps, hv, hnd, hok⟩ := hL
  have star : "*" ++ "errors.errorString" = "*errors.errorString" := by decide
  have hrow : ∀ u, Tryd.prog.typeName? 3 u = some "*errors.errorString" → u = tErr := fun u hu =>
    typeName_ptr_named (nm := "errors.errorString") (by rw [star]; kernel_rfl) (by kernel_rfl) (by decide) u (by rw [star]; exact hu)
  obtain ⟨aa, h1, h2, h3⟩ := laid_sens Tryd.underlying34 hrow Tryd.underlying164 Tryd.underlying181 rfl rfl Tryd.underlying9 (by kernel_rfl) (by kernel_rfl) L gs ps hv hb hok
  have nd : (aa.map fun a => MemPlace.cell a.block a.off).Nodup := h3.nodup hnd
  have at_ : ∀ g, g < 19 → ∃ a, gs[gs.idxOf g]? = some g ∧ aa[gs.idxOf g]? = some a ∧ aa.getD (gs.idxOf g) default = a := fun g hlt => by
    have hm : g ∈ gs := by simpa using List.all_eq_true.1 hg g (List.mem_range.2 hlt)
    have hi := List.idxOf_lt_length_of_mem hm
    have hi' : gs.idxOf g < aa.length := by omega
    exact ⟨aa[gs.idxOf g], by rw [List.getElem?_eq_getElem hi, List.getElem_idxOf], List.getElem?_eq_getElem hi', by rw [List.getD_eq_getElem?_getD, List.getElem?_eq_getElem hi']; rfl⟩
  refine ⟨fun g => aa.getD (gs.idxOf g) default, fun g hlt => ?_, fun g hlt => ?_, fun g h hlt hlt' e => ?_⟩
  · obtain ⟨a, e1, e2, e3⟩ := at_ g hlt
    show W.cell? _ = some (.iface tErr (.pointer (some (aa.getD (gs.idxOf g) default))))
    rw [e3]
    exact (h2 _ g a e1 e2).1
  · obtain ⟨a, e1, e2, e3⟩ := at_ g hlt
    show ∃ cs T, W.heap[(aa.getD (gs.idxOf g) default).block]? = some (.cells cs T (0, 0))
    rw [e3]
    exact (h2 _ g a e1 e2).2
  · obtain ⟨a, e1, e2, e3⟩ := at_ g hlt
    obtain ⟨b, f1, f2, f3⟩ := at_ h hlt'
    change aa.getD (gs.idxOf g) default = aa.getD (gs.idxOf h) default at e
    rw [e3, f3] at e
    subst e
    unfold List.Nodup at nd
    rw [List.pairwise_map] at nd
    have hij : gs.idxOf g = gs.idxOf h := by
      rcases Nat.lt_trichotomy (gs.idxOf g) (gs.idxOf h) with hlt | heq | hgt
      · have := List.pairwise_iff_getElem.1 nd _ _ (List.getElem?_eq_some_iff.1 e2).1 (List.getElem?_eq_some_iff.1 f2).1 hlt
        rw [(List.getElem?_eq_some_iff.1 e2).2, (List.getElem?_eq_some_iff.1 f2).2] at this
        exact absurd rfl this
      · exact heq
      · have := List.pairwise_iff_getElem.1 nd _ _ (List.getElem?_eq_some_iff.1 f2).1 (List.getElem?_eq_some_iff.1 e2).1 hgt
        rw [(List.getElem?_eq_some_iff.1 e2).2, (List.getElem?_eq_some_iff.1 f2).2] at this
        exact absurd rfl this
    rw [hij] at e1
    exact Option.some.inj (e1.symm.trans f1)
end Go.Proofs.YtnkafkikjcgogaaDoor
