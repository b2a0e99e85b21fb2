/- The sort of manifests: the shelf's contract in the engine's words. -/
import Derived.Test.YtnkafkikjcgogaaDoorShS
import Derived.Test.YtnkafkikjcgogaaDoorVmod
import Derived.Test.YtnkafkikjcgogaaDoorSye
set_option linter.unusedVariables false
set_option linter.unusedSimpArgs false
namespace Go.Proofs.YtnkafkikjcgogaaDoor
open Go.Sx Go.RowKit Go.Lib Go.Sort Go.Shelf

/-- What turns nothing lays blocks and draws. -/
theorem evo_grown {w w' : World} (h : Go.Sy.Evo Go.Sy.No w w') : ∃ q os, w' = grow (w.drewN q) os := by
  refine ⟨w'.drawn - w.drawn, w'.heap.extract w.heap.size w'.heap.size, ?_⟩
  have hh : w'.heap = w.heap ++ w'.heap.extract w.heap.size w'.heap.size := by
    apply Array.ext_getElem?
    intro i
    by_cases hi : i < w.heap.size
    · rw [Array.getElem?_append_left hi]
      exact h.block i hi id
    · rw [Array.getElem?_append_right (by omega), Array.getElem?_extract]
      have hs := h.size
      by_cases h2 : i < w'.heap.size
      · rw [if_pos (by omega)]; congr 1; omega
      · rw [if_neg (by omega)]; exact Array.getElem?_eq_none (by omega)
  have hd : w.drawn ≤ w'.drawn := h.drawn
  cases w'
  cases w
  simp only [grow, World.drewN] at *
  simp only [World.mk.injEq]
  exact ⟨hh, h.tape, by omega, h.os, h.output⟩

theorem ownUp {M : Nat → Prop} {a : Option Addr} {m : Nat} (lo : ∀ b, OwnB a b → m ≤ b) : ∀ x, x < m → OwnM M a x → M x := fun x hx h => h.elim id fun hb => absurd (lo x hb) (by omega)
theorem ownUp2 {M : Nat → Prop} {a : Option Addr} {m bi : Nat} (lo : ∀ b, OwnB a b → m ≤ b) (hb : m ≤ bi) : ∀ x, x < m → OwnM (Plus M bi) a x → M x := fun x hx h => h.elim (Plus.sub hb x hx) fun hb => absurd (lo x hb) (by omega)
theorem own_ne {a a' : Option Addr} {w : World} {bi : Nat} (hf : a' = a ∨ w.heap.size ≤ ab a') (h : ∀ b, OwnB a b → b ≠ bi) (hbi : bi < w.heap.size) : ∀ b, OwnB a' b → b ≠ bi := fun b hb => by
  rcases hf with rfl | hf
  · exact h b hb
  · have := hb.2; omega
def orL : List Int → Int
  | [] => 0
  | x :: r => if x = 0 then orL r else x

theorem flatK_rows {α : Type} [Inhabited α] (enc : α → List Value) (k : Nat) (hk : ∀ x, (enc x).length = k) (h0 : 0 < k) (d : Array α) : (flatK enc k d).toList = (d.toList.map enc).flatten := by
  have hsh : ∀ r ∈ d.toList.map enc, r.length = k := fun r hr => by
    obtain ⟨x, _, rfl⟩ := List.mem_map.1 hr; exact hk x
  have hl : (d.toList.map enc).flatten.length = d.size * k := by rw [flatten_len _ hsh]; simp
  apply List.ext_getElem?
  intro t
  by_cases ht : t < d.size * k
  · have hj : t / k < d.size := Nat.div_lt_of_lt_mul (by rw [Nat.mul_comm]; exact ht)
    have hm := Nat.mod_lt t h0
    have h1 : (flatK enc k d)[t]! = (enc d[t / k]!)[t % k]! := get_flatK enc k d t ht
    have hr : (d.toList.map enc)[t / k]? = some (enc d[t / k]!) := by
      rw [List.getElem?_map, Array.getElem?_toList, Array.getElem?_eq_getElem hj, getElem!_pos d _ hj]; rfl
    have hlt : t % k < (enc d[t / k]!).length := by rw [hk]; exact hm
    have h2 := flatten_at (k := k) _ _ _ hsh hr (t % k) ((enc d[t / k]!)[t % k]!) (by rw [getElem!_pos (enc d[t / k]!) (t % k) hlt]; exact List.getElem?_eq_getElem hlt)
    rw [show t / k * k + t % k = t from Nat.div_add_mod' t k] at h2
    rw [h2, ← h1]
    have hs : t < (flatK enc k d).size := by simpa using ht
    rw [Array.getElem?_toList, Array.getElem?_eq_getElem hs, getElem!_pos (flatK enc k d) t hs]
  · rw [List.getElem?_eq_none (by simpa using ht), List.getElem?_eq_none (by rw [hl]; omega)]

/-- A manifest's cells, its ID being one. -/
def MC : Type := { x : Mani × List Value // 0 ≤ x.1.id ∧ x.1.id ≤ 2147483647 ∧ ∃ a b : Value, x.2 = [.int .i64 x.1.id, .int .i64 x.1.base, .int .i64 x.1.end_, .int .i64 x.1.time, a, b] ∧ a.oneCell' = true ∧ b.oneCell' = true }
instance instMC : Inhabited MC := ⟨⟨(⟨0, 0, 0, 0, [], []⟩, [.int .i64 0, .int .i64 0, .int .i64 0, .int .i64 0, .slice none 0 0, .slice none 0 0]), by decide, by decide, .slice none 0 0, .slice none 0 0, rfl, rfl, rfl⟩⟩
def MC.enc (x : MC) : List Value := x.1.2
def MC.m (x : MC) : Mani := x.1.1
theorem MC.cells (x : MC) : ∃ a b : Value, x.enc = [.int .i64 x.m.id, .int .i64 x.m.base, .int .i64 x.m.end_, .int .i64 x.m.time, a, b] ∧ a.oneCell' = true ∧ b.oneCell' = true := x.2.2.2
theorem MC.len (x : MC) : x.enc.length = 6 := by
  obtain ⟨a, b, h, _, _⟩ := x.cells; rw [h]; rfl
theorem MC.one (x : MC) : ∀ v ∈ x.enc, v.oneCell' = true := by
  obtain ⟨a, b, h, ha, hb⟩ := x.cells
  intro v hv
  rw [h] at hv
  simp only [List.mem_cons, List.not_mem_nil, or_false] at hv
  rcases hv with rfl | rfl | rfl | rfl | rfl | rfl <;> first | rfl | assumption
def MC.a (x : MC) : Value := x.1.2.getD 4 undef
def MC.b (x : MC) : Value := x.1.2.getD 5 undef
def encMC (x : MC) : List Value := [.int .i64 x.m.id, .int .i64 x.m.base, .int .i64 x.m.end_, .int .i64 x.m.time, x.a, x.b]
theorem MC.enc_eq : MC.enc = encMC := by
  funext x
  obtain ⟨a, b, h, _, _⟩ := x.cells
  have ha : x.a = a := by show x.enc.getD 4 undef = a; rw [h]; rfl
  have hb : x.b = b := by show x.enc.getD 5 undef = b; rw [h]; rfl
  rw [h, encMC, ha, hb]
def cmpI (a b : Int) : Int := if a < b then -1 else if b < a then 1 else 0
/-- How two manifests stand to each other. -/
def cfM (x y : MC) : Int := if cmpI x.m.base y.m.base = 0 then x.m.id - y.m.id else cmpI x.m.base y.m.base
/-- Does a manifest stand ahead of another one? -/
def ahead (x y : Mani) : Prop := x.base < y.base ∨ x.base = y.base ∧ x.id < y.id
theorem ltM (x y : MC) : ltOf cfM x y = true ↔ ahead x.m y.m := by
  unfold ltOf cfM cmpI ahead
  rw [decide_eq_true_eq]
  by_cases h1 : x.m.base < y.m.base
  · simp [h1]
  · by_cases h2 : y.m.base < x.m.base
    · simp [h1, h2]; omega
    · simp [h1, h2]; omega
theorem ltM_f (x y : MC) : ltOf cfM x y = false ↔ ¬ ahead x.m y.m := by rw [← ltM, Bool.not_eq_true]
theorem swoM : SWO (ltOf cfM) where
  irrefl x := by rw [ltM_f]; unfold ahead; omega
  trans x y z h1 h2 := by rw [ltM] at *; unfold ahead at *; omega
  ntrans x y z h1 h2 := by rw [ltM_f] at *; unfold ahead at *; omega

theorem sort_c (hcmp : ∀ (x y : MC) (w : World), Calls Tryd.prog 29 (List.toArray [.agg (List.toArray x.enc), .agg (List.toArray y.enc)]) w (Go.Sy.Ret Go.Sy.No w fun v _ => v = .int .i64 (cfM x y)))
    (w : World) (xs : List MC) (a : Option Addr) (n c : Nat) (hO : Own 6 31 (xs.map MC.enc) a n c w) (hn : n ≤ 1048576) :
    Calls Tryd.prog 28 (List.toArray [.slice a n c, .func (.func 29) #[] #[]]) w
      (Ret (OwnB a) w fun _ w' => ∃ ys : List MC, ys.Perm xs ∧ ys.Pairwise (fun x y => ¬ ahead y.m x.m) ∧ Own 6 31 (ys.map MC.enc) a n c w') := by
  have hlen := hO.len
  rw [List.length_map] at hlen
  rcases hO.row with ⟨rfl, rfl, rfl⟩ | ⟨cs, ha, hb, hcl, hnc, htk⟩
  · have hx : xs = [] := List.eq_nil_of_length_eq_zero hlen.symm
    subst hx
    have h := AnyF.slices_SortFunc_none sortMani none 0 (.func (.func 29) #[] #[]) w
    change Calls Tryd.prog 28 _ _ _ at h
    refine h.mono fun e w' h' => ?_
    obtain ⟨rfl, rfl⟩ := h'
    exact ⟨Evo.refl _ _, [], List.Perm.nil, List.Pairwise.nil, hO⟩
  · have eg : ∀ args w, (callFunc 29 args).run Tryd.prog w = .ok (.enter 29 args) w := fun args w => run_callFunc (by kernel_rfl) args w
    have hcl' : CmpLays Tryd.prog 29 #[] MC.enc 6 cfM (ab a) 0 xs.toArray.size w := fun m os dk _ x y => by
      refine (hcmp x y _).mono fun e w' h => ?_
      cases e with
      | returned v =>
        obtain ⟨h1, rfl⟩ := h
        exact ⟨rfl, evo_grown h1⟩
      | panicked c => exact h.elim
      | outgrown => exact h.elim
    have hfl : (flatK MC.enc 6 xs.toArray).toList = (xs.map MC.enc).flatten := by rw [flatK_rows MC.enc 6 MC.len (by decide)]
    have hH : HoldsK MC.enc 6 w (ab a) 0 xs.toArray := fun j hj => by
      refine ⟨?_, hb.free _⟩
      rw [Nat.zero_add, hb.cell]
      have hj2 : j < n * 6 := by simpa [hlen] using hj
      have h3 : (cs.take (n * 6))[j]? = cs[j]? := List.getElem?_take_of_lt hj2
      rw [← h3, htk, ← hfl, Array.getElem?_toList, Array.getElem?_eq_getElem hj]
      simp only [id]
      rw [getElem!_pos (flatK MC.enc 6 xs.toArray) j hj]
    have h := AnyQ.slices_SortFunc sortMani 6 Tryd.isAgg31 Tryd.sizeOf31 MC.enc MC.len MC.one cfM swoM 29 #[] (ab a) 0 c xs.toArray w eg hcl' hH hb.lt (by simp; omega)
    change Calls Tryd.prog 28 _ _ _ at h
    rw [← ha, show xs.toArray.size = n from by simp [hlen]] at h
    refine h.mono fun e w' h' => ?_
    obtain ⟨rfl, d', q, os, hp, hs, rfl⟩ := h'
    obtain ⟨hp1, _, hp3⟩ := hp
    have hds : d'.size = n := by rw [hp1]; simp [hlen]
    rw [show d'.extract 0 n = d' from by rw [← hds]; simp, show xs.toArray.extract 0 n = xs.toArray from by rw [hlen]; simp] at hp3
    have hblk : (sortWorldK MC.enc 6 w (ab a) 0 q d' os).heap[ab a]? = some (.cells (putCells id 0 (flatK MC.enc 6 d') cs.toArray) 31 (0, 0)) := by
      have hlt := hb.lt
      unfold sortWorldK putRowK putRow mapBlock grow
      show ((Array.modify w.heap (ab a) (onCells (putCells id 0 (flatK MC.enc 6 d')))) ++ os)[ab a]? = _
      rw [Array.getElem?_append_left (by simpa using hlt), Array.getElem?_modify]
      simp only [if_true]
      rw [show w.heap[ab a]? = _ from hb]
      rfl
    have hfl' : (flatK MC.enc 6 d').toList = (d'.toList.map MC.enc).flatten := flatK_rows MC.enc 6 MC.len (by decide) d'
    have hsz : (flatK MC.enc 6 d').size = n * 6 := by rw [size_flatK, hds]
    refine ⟨⟨rfl, rfl, rfl, ?_, ?_, ?_⟩, d'.toList, by simpa using hp3, ?_, ?_, ?_, ?_, .inr ⟨(putCells id 0 (flatK MC.enc 6 d') cs.toArray).toList, ha, by unfold Blk; rw [hblk], ?_, hnc, ?_⟩⟩
    · unfold sortWorldK putRowK putRow mapBlock grow
      show w.heap.size ≤ ((Array.modify w.heap (ab a) _) ++ os).size
      simp
    · exact Nat.le_refl 0
    · intro b hb2 hne
      have hne2 : ab a ≠ b := fun e => hne ⟨by rw [ha]; simp, e.symm⟩
      unfold sortWorldK putRowK putRow mapBlock grow
      show ((Array.modify w.heap (ab a) _) ++ os)[b]? = _
      rw [Array.getElem?_append_left (by simpa using hb2), Array.getElem?_modify, if_neg hne2]
    · rw [List.pairwise_iff_getElem]
      intro i j hi hj hij
      have h9 := hs i j (Nat.zero_le _) hij (by rw [← hds]; simpa using hj)
      rw [ltM_f] at h9
      rw [getElem!_pos d' j (by simpa using hj), getElem!_pos d' i (by simpa using hi)] at h9
      simpa using h9
    · simp [hds]
    · intro r hr
      obtain ⟨x, _, rfl⟩ := List.mem_map.1 hr; exact x.len
    · rw [List.all_eq_true]
      intro v hv
      obtain ⟨l, hl, hv⟩ := List.mem_flatten.1 hv
      obtain ⟨x, _, rfl⟩ := List.mem_map.1 hl
      exact x.one v hv
    · unfold putCells; simpa using hcl
    · rw [← hfl']
      apply List.ext_getElem?
      intro t
      by_cases ht : t < n * 6
      · have hle : n * 6 ≤ c * 6 := Nat.mul_le_mul_right _ hnc
        have htc : t < cs.length := by omega
        rw [List.getElem?_take_of_lt ht, Array.getElem?_toList, Array.getElem?_toList]
        unfold putCells
        rw [Array.getElem?_mapIdx, show cs.toArray[t]? = some cs[t] from by simp [htc], Option.map_some]
        have hs : t < (flatK MC.enc 6 d').size := by omega
        rw [if_pos (by omega), Nat.sub_zero, getElem!_pos (flatK MC.enc 6 d') t hs, Array.getElem?_eq_getElem hs]; rfl
      · rw [List.getElem?_eq_none (by simp; omega), List.getElem?_eq_none (by simp [hsz]; omega)]
end Go.Proofs.YtnkafkikjcgogaaDoor
