/- The plain laws of ViewLives. -/
import Derived.Test.YtnkafkikjcgogaaDoorNmod
namespace Go.Proofs.YtnkafkikjcgogaaDoor
open Go.Sx

/-- A segment of the law. -/
abbrev lvM (k : Int) : Mani := oneM k (30 - 5 * k)
theorem lv_ok {k : Int} (h0 : 0 ≤ k) (h1 : k < 4) : maniErr (lvM k) = .ok := oneM_ok h0 (by omega) (by omega) (by omega)
def lvName (k : Int) : ByteArray := objName k bMarks (30 - 5 * k)
theorem lv_names : ((List.range 4).all fun k => (List.range 4).all fun j => (decide (objName (j : Int) bMarks (30 - 5 * (j : Int)) = lvName (k : Int)) == decide (j = k)) && !decide (objName (j : Int) bData (30 - 5 * (j : Int)) = lvName (k : Int))) = true := by
  kernel_rfl
theorem lv_name {j k : Nat} (hj : j < 4) (hk : k < 4) : (lvM j).objects.any (fun o => decide (o.name = lvName k)) = decide (j = k) := by
  have h1 := List.all_eq_true.1 lv_names k (List.mem_range.2 hk)
  have h2 := List.all_eq_true.1 h1 j (List.mem_range.2 hj)
  simp only [Bool.and_eq_true, beq_iff_eq, Bool.not_eq_true'] at h2
  show (decide (objName (j : Int) bData (30 - 5 * (j : Int)) = lvName (k : Int)) || (decide (objName (j : Int) bMarks (30 - 5 * (j : Int)) = lvName (k : Int)) || false)) = _
  rw [h2.2, h2.1]; simp

/-- Where the law stands. -/
structure LInv (l : List (Int × Mani)) (ss : List Int) : Prop where
  len : ss.length = 4
  each : ∀ q ∈ l, (1 ≤ q.1 ∧ q.1 ≤ 4) ∧ ∃ k : Nat, k < 4 ∧ q.2 = lvM k
  ids : (l.map fun q => q.2.id).Nodup
  st : ∀ k : Nat, k < 4 → ss[k]? = some (stateOf l k)
theorem LInv.nil : LInv [] [0, 0, 0, 0] := ⟨rfl, by simp, by simp, fun k hk => by
  have : k = 0 ∨ k = 1 ∨ k = 2 ∨ k = 3 := by omega
  rcases this with rfl | rfl | rfl | rfl <;> rfl⟩
theorem vlook_mem {l : List (Int × Mani)} (hn : (l.map fun q => q.2.id).Nodup) {q : Int × Mani} (hq : q ∈ l) : vlook l q.2.id = some q := by
  induction l with
  | nil => simp at hq
  | cons a r ih =>
    rw [List.map_cons, List.nodup_cons] at hn
    simp only [vlook]
    rcases List.mem_cons.1 hq with rfl | hq
    · rw [if_pos rfl]
    · rw [if_neg (fun e => hn.1 (List.mem_map.2 ⟨q, hq, e.symm⟩))]
      exact ih hn.2 hq
theorem vlook_upd (l : List (Int × Mani)) (x : Int × Mani) (k : Int) : vlook (vupd l x) k = if x.2.id = k then some x else vlook l k := by
  induction l with
  | nil => simp [vupd, vlook]
  | cons a r ih =>
    simp only [vupd]
    by_cases h : a.2.id = x.2.id
    · rw [if_pos h]
      simp only [vlook, h]
      by_cases h2 : x.2.id = k <;> simp [h2]
    · rw [if_neg h]
      simp only [vlook, ih]
      by_cases h2 : a.2.id = k
      · simp only [h2, if_true]
        rw [if_neg (fun e => h (h2.trans e.symm))]
      · simp [h2]
theorem vupd_ids (l : List (Int × Mani)) (x : Int × Mani) : ((vupd l x).map fun q => q.2.id) = if x.2.id ∈ (l.map fun q => q.2.id) then (l.map fun q => q.2.id) else (l.map fun q => q.2.id) ++ [x.2.id] := by
  induction l with
  | nil => simp [vupd]
  | cons a r ih =>
    simp only [vupd]
    by_cases h : a.2.id = x.2.id
    · simp [h]
    · rw [if_neg h]
      simp only [List.map_cons, ih, List.mem_cons]
      by_cases h2 : x.2.id ∈ r.map fun q => q.2.id
      · simp [h2]
      · rw [if_neg h2, if_neg (by intro e; rcases e with e | e; exact h e.symm; exact h2 e)]; rfl
theorem LInv.few {l : List (Int × Mani)} {ss : List Int} (I : LInv l ss) : l.length ≤ 4 := by
  have h1 : (l.map fun q => q.2.id).Perm (((List.range 4).filter fun k : Nat => decide ((k : Int) ∈ l.map fun q => q.2.id)).map fun k : Nat => (k : Int)) := by
    refine (List.perm_ext_iff_of_nodup I.ids ?_).2 fun a => ?_
    · rw [List.nodup_iff_pairwise_ne, List.pairwise_map]
      exact ((List.filter_sublist).nodup (List.nodup_range)).imp fun h e => h (by omega)
    · rw [List.mem_map (l := (List.range 4).filter _)]
      simp only [List.mem_filter, decide_eq_true_eq, List.mem_range]
      constructor
      · intro ha
        obtain ⟨q, hq, rfl⟩ := List.mem_map.1 ha
        obtain ⟨j, hj, e⟩ := (I.each q hq).2
        have hid : q.2.id = (j : Int) := by rw [e]; rfl
        exact ⟨j, ⟨hj, by rw [← hid]; exact ha⟩, hid.symm⟩
      · rintro ⟨k, ⟨_, h2⟩, rfl⟩
        exact h2
  have h2 := h1.length_eq
  rw [List.length_map, List.length_map] at h2
  have h3 : ((List.range 4).filter fun k : Nat => decide ((k : Int) ∈ l.map fun q => q.2.id)).length ≤ 4 := Nat.le_trans (List.length_filter_le _ _) (by simp)
  omega
theorem LInv.stay {l : List (Int × Mani)} {ss : List Int} (I : LInv l ss) {k : Nat} (hk : k < 4) {kind : Int} (h1 : 1 ≤ kind) (h2 : kind ≤ 4) {s : Int} (hs : ss[k]? = some s) (hn : nextOk s kind = false) :
    applyErr l kind (lvM k) ≠ .ok ∧ applyV l kind (lvM k) = l := by
  have hst : stateOf l k = s := by rw [I.st k hk] at hs; exact Option.some.inj hs
  have he : applyErr l kind (lvM k) = .e gState := apply_state (lv_ok (by omega) (by omega)) h1 h2 (by show nextOk (stateOf l k) kind = false; rw [hst]; exact hn)
  exact ⟨by rw [he]; simp, NInv.same (by rw [he]; simp)⟩
theorem LInv.go {l : List (Int × Mani)} {ss : List Int} (I : LInv l ss) {k : Nat} (hk : k < 4) {kind : Int} (h1 : 1 ≤ kind) (h2 : kind ≤ 4) {s : Int} (hs : ss[k]? = some s) (hn : nextOk s kind = true) :
    applyErr l kind (lvM k) = .ok ∧ LInv (applyV l kind (lvM k)) (ss.set k kind) := by
  have hst : stateOf l k = s := by rw [I.st k hk] at hs; exact Option.some.inj hs
  have hle := I.few
  have he : applyErr l kind (lvM k) = .ok := by
    rw [applyErr_eq (lv_ok (by omega) (by omega)) h1 h2]
    have e1 : nextOk (stateOf l (lvM k).id) kind = true := by show nextOk (stateOf l k) kind = true; rw [hst]; exact hn
    rw [if_neg (by rw [e1]; simp)]
    show (match vlook l (k : Int) with | none => _ | some q => _) = _
    cases hv : vlook l (k : Int) with
    | none => dsimp only; rw [if_neg (by omega)]
    | some q =>
      dsimp only
      obtain ⟨hq, hid⟩ := vlook_some hv
      obtain ⟨j, hj, e⟩ := (I.each q hq).2
      have : j = k := by rw [e] at hid; have : (j : Int) = k := hid; omega
      subst this
      rw [if_pos e]
  refine ⟨he, ?_⟩
  have ha : applyV l kind (lvM k) = vupd l (kind, lvM k) := by unfold applyV; rw [if_pos he]
  rw [ha]
  refine ⟨by rw [List.length_set]; exact I.len, ?_, ?_, ?_⟩
  · intro q hq
    rcases vupd_mem hq with rfl | hq
    · exact ⟨⟨h1, h2⟩, k, hk, rfl⟩
    · exact I.each q hq
  · rw [vupd_ids]
    split
    · exact I.ids
    · rename_i hni
      rw [List.nodup_append]
      exact ⟨I.ids, by simp, fun a ha b hb => by rw [List.mem_singleton] at hb; subst hb; rintro rfl; exact hni ha⟩
  · intro j hj
    have hl := I.len
    unfold stateOf
    rw [vlook_upd]
    show _ = some ((Option.map (·.1) (if (k : Int) = (j : Int) then some (kind, lvM k) else vlook l j)).getD 0)
    by_cases hjk : k = j
    · subst hjk
      rw [if_pos rfl, List.getElem?_set_self (by omega)]; rfl
    · rw [if_neg (by omega), List.getElem?_set_ne hjk, I.st j hj]; rfl
theorem LInv.refers {l : List (Int × Mani)} {ss : List Int} (I : LInv l ss) {k : Nat} (hk : k < 4) {s : Int} (hs : ss[k]? = some s) : refersOf l (lvName k) = (decide (s = 1) || decide (s = 2)) := by
  have hst : stateOf l k = s := by rw [I.st k hk] at hs; exact Option.some.inj hs
  have hq : ∀ q ∈ l, hitQ (lvName k) q = true ↔ (q.2.id = k ∧ (q.1 = 1 ∨ q.1 = 2)) := fun q hq => by
    obtain ⟨j, hj, e⟩ := (I.each q hq).2
    unfold hitQ
    rw [e, lv_name hj hk]
    show _ ↔ ((j : Int) = k ∧ _)
    simp only [Bool.and_eq_true, Bool.or_eq_true, decide_eq_true_eq]
    omega
  rw [Bool.eq_iff_iff]
  unfold refersOf
  rw [List.any_eq_true]
  simp only [Bool.or_eq_true, decide_eq_true_eq]
  constructor
  · rintro ⟨q, hm, h⟩
    obtain ⟨h1, h2⟩ := (hq q hm).1 h
    have hv := vlook_mem I.ids hm
    rw [h1] at hv
    rw [← hst, state_some hv]; exact h2
  · intro h
    cases hv : vlook l (k : Int) with
    | none => rw [state_none hv] at hst; omega
    | some q =>
      obtain ⟨hm, hid⟩ := vlook_some hv
      rw [state_some hv] at hst
      exact ⟨q, hm, (hq q hm).2 ⟨hid, by rw [hst]; exact h⟩⟩
theorem LInv.state {l : List (Int × Mani)} {ss : List Int} (I : LInv l ss) {k : Nat} (hk : k < 4) {s : Int} (hs : ss[k]? = some s) : stateOf l k = s := by
  rw [I.st k hk] at hs; exact Option.some.inj hs
/-- What is listed. -/
theorem LInv.sorted {l : List (Int × Mani)} {ss : List Int} (I : LInv l ss) {zs : List MC} (hp : (zs.map MC.m).Perm ((l.filter fun q => ([2] : List Int).any fun y => decide (q.1 = y)).map (·.2))) (hs : zs.Pairwise fun x y => ¬ ahead y.m x.m) :
    zs.length = ss.countP (fun s => decide (s = 2)) ∧ zs.Pairwise fun x y => x.m.base < y.m.base := by
  have hf : (l.filter fun q => ([2] : List Int).any fun y => decide (q.1 = y)) = l.filter fun q => decide (q.1 = 2) := by
    congr 1; funext q; simp
  rw [hf] at hp
  have hss : ss = (List.range 4).map fun k : Nat => stateOf l (k : Int) := by
    apply List.ext_getElem?
    intro i
    by_cases hi : i < 4
    · rw [I.st i hi, List.getElem?_map, List.getElem?_range hi]; rfl
    · rw [List.getElem?_eq_none (by rw [I.len]; omega), List.getElem?_eq_none (by simp; omega)]
  have hcount : (l.filter fun q => decide (q.1 = 2)).length = ss.countP (fun s => decide (s = 2)) := by
    have h1 : ((l.filter fun q => decide (q.1 = 2)).map fun q => q.2.id).Perm (((List.range 4).filter fun k : Nat => decide (stateOf l (k : Int) = 2)).map fun k : Nat => (k : Int)) := by
      refine (List.perm_ext_iff_of_nodup (((List.filter_sublist).map _).nodup I.ids) ?_).2 fun a => ?_
      · rw [List.nodup_iff_pairwise_ne, List.pairwise_map]
        exact ((List.filter_sublist).nodup (List.nodup_range)).imp fun h e => h (by omega)
      · simp only [List.mem_map, List.mem_filter, decide_eq_true_eq, List.mem_range]
        constructor
        · rintro ⟨q, ⟨hq, h2⟩, rfl⟩
          obtain ⟨j, hj, e⟩ := (I.each q hq).2
          have hv := vlook_mem I.ids hq
          have hid : q.2.id = (j : Int) := by rw [e]; rfl
          rw [hid] at hv
          exact ⟨j, ⟨hj, by rw [state_some hv]; exact h2⟩, hid.symm⟩
        · rintro ⟨k, ⟨hk, h2⟩, rfl⟩
          cases hv : vlook l (k : Int) with
          | none => rw [state_none hv] at h2; omega
          | some q =>
            obtain ⟨hm, hid⟩ := vlook_some hv
            rw [state_some hv] at h2
            exact ⟨q, ⟨hm, h2⟩, hid⟩
    have h2 := h1.length_eq
    rw [List.length_map, List.length_map] at h2
    rw [h2, hss, List.countP_map, List.countP_eq_length_filter]
    rfl
  refine ⟨by have := hp.length_eq; rw [List.length_map, List.length_map] at this; rw [this, hcount], ?_⟩
  have hnd : (zs.map fun x => x.m.id).Nodup := by
    have h1 := hp.map (·.id)
    rw [List.map_map, List.map_map] at h1
    exact h1.nodup_iff.2 (((List.filter_sublist).map _).nodup I.ids)
  have hall : ∀ x ∈ zs, ∃ k : Nat, k < 4 ∧ x.m = lvM k := fun x hx => by
    have : x.m ∈ (l.filter fun q => decide (q.1 = 2)).map (·.2) := hp.mem_iff.1 (List.mem_map.2 ⟨x, hx, rfl⟩)
    obtain ⟨q, hq, hqx⟩ := List.mem_map.1 this
    obtain ⟨k, hk, c⟩ := (I.each q (List.mem_filter.1 hq).1).2
    exact ⟨k, hk, by rw [← hqx, c]⟩
  unfold List.Nodup at hnd
  rw [List.pairwise_map] at hnd
  refine List.Pairwise.imp_of_mem ?_ (hs.and hnd)
  intro x y hx hy h
  obtain ⟨h1, h2⟩ := h
  obtain ⟨a, a1, a2⟩ := hall x hx
  obtain ⟨b, b1, b2⟩ := hall y hy
  rw [a2, b2] at h1 h2 ⊢
  unfold ahead lvM oneM at h1
  simp only [lvM, oneM] at h2 ⊢
  simp only at h1
  omega
theorem LInv.stayI {l : List (Int × Mani)} {ss : List Int} (I : LInv l ss) {id kind s : Int} (i0 : 0 ≤ id) (i1 : id < 4) (h1 : 1 ≤ kind) (h2 : kind ≤ 4) (hs : ss[id.toNat]? = some s) (hn : nextOk s kind = false) :
    applyErr l kind (oneM id (30 - 5 * id)) ≠ .ok ∧ applyV l kind (oneM id (30 - 5 * id)) = l := by
  have := I.stay (k := id.toNat) (by omega) h1 h2 hs hn
  rwa [Int.toNat_of_nonneg i0] at this
theorem LInv.goI {l : List (Int × Mani)} {ss : List Int} (I : LInv l ss) {id kind s : Int} (i0 : 0 ≤ id) (i1 : id < 4) (h1 : 1 ≤ kind) (h2 : kind ≤ 4) (hs : ss[id.toNat]? = some s) (hn : nextOk s kind = true) :
    applyErr l kind (oneM id (30 - 5 * id)) = .ok ∧ LInv (applyV l kind (oneM id (30 - 5 * id))) (ss.set id.toNat kind) := by
  have := I.go (k := id.toNat) (by omega) h1 h2 hs hn
  rwa [Int.toNat_of_nonneg i0] at this
theorem number_v (w : World) (a b : Int) (hb : 0 < b) (hb2 : b ≤ 4611686018427387904) (ha1 : -9223372036854775808 ≤ a) (ha2 : a ≤ 9223372036854775807) :
    Calls Tryd.prog 9 (List.toArray [.int .i64 a, .int .i64 b]) w (Ret No w fun v _ => ∃ r : Int, v = .int .i64 r ∧ 0 ≤ r ∧ r < b) := by
  refine (number_c w a b hb hb2 ha1 ha2).mono fun e w' h => ?_
  cases e with
  | returned v => obtain ⟨h1, rfl⟩ := h; exact ⟨h1, _, rfl, Int.emod_nonneg _ (by omega), Int.emod_lt_of_pos _ hb⟩
  | panicked c => exact h.elim
  | outgrown => exact h.elim
theorem cnt_snoc {ss : List Int} {j : Nat} {s : Int} (h : ss[j]? = some s) : (ss.take (j + 1)).countP (fun s => decide (s = 2)) = (ss.take j).countP (fun s => decide (s = 2)) + if s = 2 then 1 else 0 := by
  rw [List.take_add_one, List.countP_append, h]
  by_cases h2 : s = 2 <;> simp [h2]
theorem lv_obj {k : Int} {x : Obj} (h : (lvM k).objects[(1 : Int).toNat]? = some x) : x.name = lvName k := by
  have : x = ⟨objName k bMarks (30 - 5 * k), 0, 0⟩ := (Option.some.inj h).symm
  rw [this]; rfl
end Go.Proofs.YtnkafkikjcgogaaDoor
