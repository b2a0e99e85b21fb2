import Derived.Test.YtnkafkikjcgogaaDoorSxi
import Derived.Test.YtnkafkikjcgogaaDoorProg
import Derived.Test.YtnkafkikjcgogaaDoorBmod
import Derived.Test.YtnkafkikjcgogaaDoorVw1
/- Closed facts on the translation. -/
set_option maxRecDepth 100000
set_option linter.unusedVariables false
set_option linter.unusedSimpArgs false
namespace Go.Proofs.YtnkafkikjcgogaaDoor.FG
open Go.Sx
theorem mixed : Tryd.prog.follows .mixedOrders = true := by kernel_rfl
theorem ag31 : aggB Tryd.prog 31 = some 6 := by kernel_rfl
theorem ag46 : aggB Tryd.prog 46 = some 3 := by kernel_rfl
theorem ag61 : aggB Tryd.prog 61 = some 2 := by kernel_rfl
theorem ap28 : appB Tryd.prog 28 = some (61, 2, 16) := by kernel_rfl
theorem ap29 : appB Tryd.prog 29 = some (46, 3, 32) := by kernel_rfl
theorem el28 : elemB Tryd.prog 28 = some (61, 2) := by kernel_rfl
theorem el29 : elemB Tryd.prog 29 = some (46, 3) := by kernel_rfl
theorem el49 : elemB Tryd.prog 49 = some (5, 1) := by kernel_rfl
theorem en34 : entB Tryd.prog 34 = true := by kernel_rfl
theorem en35 : entB Tryd.prog 35 = true := by kernel_rfl
theorem fl31_0 : fldB Tryd.prog 31 0 = some 0 := by kernel_rfl
theorem fl31_1 : fldB Tryd.prog 31 1 = some 1 := by kernel_rfl
theorem fl31_2 : fldB Tryd.prog 31 2 = some 2 := by kernel_rfl
theorem fl31_3 : fldB Tryd.prog 31 3 = some 3 := by kernel_rfl
theorem fl31_4 : fldB Tryd.prog 31 4 = some 4 := by kernel_rfl
theorem fl31_5 : fldB Tryd.prog 31 5 = some 5 := by kernel_rfl
theorem fl46_0 : fldB Tryd.prog 46 0 = some 0 := by kernel_rfl
theorem pl2 : plainB Tryd.prog 2 = true := by kernel_rfl
theorem pl28 : plainB Tryd.prog 28 = true := by kernel_rfl
theorem pl29 : plainB Tryd.prog 29 = true := by kernel_rfl
theorem pl3 : plainB Tryd.prog 3 = true := by kernel_rfl
theorem pl5 : plainB Tryd.prog 5 = true := by kernel_rfl
theorem pl9 : plainB Tryd.prog 9 = true := by kernel_rfl
theorem st9 : Tryd.prog.underlying 9 = some .string := by kernel_rfl
theorem sz31 : szB Tryd.prog 31 = some 6 := by kernel_rfl
theorem un28 : Tryd.prog.underlying 28 = some (.slice 61) := by kernel_rfl
theorem un29 : Tryd.prog.underlying 29 = some (.slice 46) := by kernel_rfl
theorem ze31 : zeroB Tryd.prog 31 = some [.int .i64 0, .int .i64 0, .int .i64 0, .int .i64 0, .slice none 0 0, .slice none 0 0] := by kernel_rfl
end Go.Proofs.YtnkafkikjcgogaaDoor.FG

set_option linter.unusedVariables false
set_option linter.unusedSimpArgs false
set_option maxRecDepth 4000
set_option maxHeartbeats 2000000
namespace Go.Proofs.YtnkafkikjcgogaaDoor
open Go.Sx FG

theorem worldMani_c {M : Nat → Prop} (w : World) (hM : Old M w) (m : Mani) (ea : Option Addr) (en ec : Nat) (oa : Option Addr) (on oc : Nat) (he : At M w (Sl 2 (m.epochs.map encP) ea en ec)) (ho : At M w (Sl 3 (m.objects.map encO) oa on oc)) :
    Calls Tryd.prog 16 (List.toArray [.agg (List.toArray [.int .i64 m.id, .int .i64 m.base, .int .i64 m.end_, .int .i64 m.time, .slice ea en ec, .slice oa on oc])]) w (Ret No w fun v _ => ∃ b : Bool, v = .bool b ∧ (b = true → en ≤ 300 ∧ on ≤ 12)) := by
  refine enter (n := 29) [(0, .agg (List.toArray [.int .i64 m.id, .int .i64 m.base, .int .i64 m.end_, .int .i64 m.time, .slice ea en ec, .slice oa on oc]))] Tryd.func16 rfl (by kernel_rfl) ?_
  refine seq ?_
  refine region [false, true] ?_
  refine l_box (M := M) Keep.any hM rfl rfl (fun k_1 w1 s1 fk_1 nk_1 => ?_)
  have e0_1 : Evo M w w1 := s1.no
  have z1 : Evo No w w1 := s1.no
  refine q_assign (v := .bool false) rfl rfl ?_
  refine done ?_
  refine thenN ?_
  refine seq ?_
  refine seq ?_
  refine region [true, false, true, true, true, true, false, true, true, true] ?_
  refine q_fieldAddr rfl rfl fl31_4 ?_
  refine l_loadB trivial rfl rfl pl28 (fk_1.now (Evo.refl M _)) rfl ?_
  refine q_len rfl rfl el28 ?_
  refine q_gtr rfl rfl rfl ?_
  refine q_move (v := .bool (decide (300 < (en : Int)))) rfl rfl ?_
  rcases bsplit (decide (300 < (en : Int))) with h_2 | h_2
  · skip
    have h_2p := of_decide_eq_true h_2
    refine q_no (gtf h_2) ?_
    refine l_no (gtf h_2) ?_
    refine q_no (gtf h_2) ?_
    refine q_no (gtf h_2) ?_
    refine q_pick_bt (v := .bool true) rfl rfl h_2 rfl ?_
    refine done ?_
    refine thenN ?_
    refine cond_t rfl ?_
    refine seq ?_
    refine region [true] ?_
    refine q_assign (v := .bool false) rfl rfl ?_
    refine done ?_
    refine thenN ?_
    refine wp_ret ?_
    refine thenR ?_
    refine ret1v (.bool false) rfl rfl ?_
    exact ⟨z1, false, rfl, fun h => by cases h⟩
  · skip
    have h_2p := of_decide_eq_false h_2
    refine q_fieldAddr (gff h_2) rfl fl31_5 ?_
    refine l_loadB trivial (gff h_2) rfl pl29 (fk_1.now (Evo.refl M _)) rfl ?_
    refine q_len (gff h_2) rfl el29 ?_
    refine q_gtr (gff h_2) rfl rfl ?_
    refine q_pick_bf (v := .bool (decide (12 < (on : Int)))) rfl rfl h_2 rfl ?_
    refine done ?_
    refine thenN ?_
    refine cond_b rfl (fun h_3 => ?_) (fun h_3 => ?_)
    · skip
      have h_3p := of_decide_eq_true h_3
      refine seq ?_
      refine region [true] ?_
      refine q_assign (v := .bool false) rfl rfl ?_
      refine done ?_
      refine thenN ?_
      refine wp_ret ?_
      refine thenR ?_
      refine ret1v (.bool false) rfl rfl ?_
      exact ⟨z1, false, rfl, fun h => by cases h⟩
    · skip
      have h_3p := of_decide_eq_false h_3
      refine wp_skip ?_
      refine thenN ?_
      refine seq ?_
      refine seq ?_
      refine region [true] ?_
      refine q_assign (v := .int .i64 0) rfl rfl ?_
      refine done ?_
      refine thenN ?_
      refine blk ?_
      have y_4 := (fk_1.on (Evo.refl M _))
      refine loopN [14, 15, 16, 17, 18, 21, 22, 23, 24, 25, 26, 27, 28, 2, 19, 20, 3] (fun k9 R9 wJ => ∃ (j : Nat), R9 = [(3, .int .i64 (j : Int))] ∧ (j ≤ on) ∧ (Evo No w1 wJ) ∧ (Evo No w wJ) ∧ k9 = on - j) ⟨_, _, ⟨0, rfl, Nat.zero_le _, Evo.refl _ _, z1, rfl⟩, ⟨(by kernel_rfl), trivial⟩⟩ (fun k9 R9 u_5 w2 J_6 => ?_)
      obtain ⟨j, rfl, hj, x9j, z9j, rfl⟩ := J_6
      have e0_2 : Evo M w w2 := e0_1.trans x9j.no
      have e1_2 : Evo M w1 w2 := x9j.no
      have exj_2 : Evo M w1 w2 := x9j.no
      have enj_2 : Evo No w1 w2 := x9j
      refine seq ?_
      refine seq ?_
      refine region [true, true, false, true, true] ?_
      refine q_move (v := .int .i64 (j : Int)) rfl rfl ?_
      refine q_fieldAddr rfl rfl fl31_5 ?_
      refine l_loadB trivial rfl rfl pl29 (y_4.now exj_2) rfl ?_
      refine q_len rfl rfl el29 ?_
      refine q_lss rfl rfl rfl ?_
      refine done ?_
      refine thenN ?_
      refine cond_b rfl (fun h_7 => ?_) (fun h_7 => ?_)
      · skip
        have h_7p := of_decide_eq_true h_7
        refine wp_skip ?_
        refine thenN ?_
        refine seq ?_
        refine blk ?_
        refine seq ?_
        refine region [true, false, true, true, true, false, true, true] ?_
        refine q_fieldAddr rfl rfl fl31_5 ?_
        refine l_loadB trivial rfl rfl pl29 (y_4.now exj_2) rfl ?_
        refine q_move (v := .int .i64 (j : Int)) rfl rfl ?_
        obtain ⟨x_8, hx_8⟩ := Sl.get (xs := m.objects) ho.here (i := (j : Int)) (by omega) (by omega)
        have Ax_8 := Sl.areaAt ho (Sl.map_get hx_8)
        refine q_indexS' rfl rfl rfl el29 (ho.here.there (by omega)).1 (by omega) (by omega) ?_
        refine q_fieldAddr rfl rfl fl46_0 ?_
        refine l_load trivial rfl rfl pl9 ((Ax_8.now e0_2) 0 _ rfl) ?_
        refine q_lenS rfl rfl st9 ?_
        refine q_gtr rfl rfl rfl ?_
        refine done ?_
        refine thenN ?_
        refine cond_b rfl (fun h_9 => ?_) (fun h_9 => ?_)
        · skip
          have h_9p := of_decide_eq_true h_9
          refine seq ?_
          refine region [true] ?_
          refine q_assign (v := .bool false) rfl rfl ?_
          refine done ?_
          refine thenN ?_
          refine wp_ret ?_
          refine blkR ?_
          refine thenR ?_
          refine thenR ?_
          refine blkR ?_
          refine thenR ?_
          refine ret1v (.bool false) rfl rfl ?_
          exact ⟨z9j, false, rfl, fun h => by cases h⟩
        · skip
          have h_9p := of_decide_eq_false h_9
          refine wp_skip ?_
          refine blkN ?_
          refine thenN ?_
          refine region [true, true, true] ?_
          refine q_move (v := .int .i64 (j : Int)) rfl rfl ?_
          refine q_add rfl rfl rfl (wi64 (by omega) (by omega)) ?_
          refine q_assign (v := .int .i64 ((j : Int) + 1)) rfl rfl ?_
          refine done ?_
          refine thenN ?_
          refine ⟨_, _, ?_, ⟨j + 1, rfl, by omega, enj_2, z9j, rfl⟩, Env.near_at 34 (by kernel_rfl) (by kernel_rfl) ⟨(Eq.trans (b := Go.Value.int .i64 ((j : Int) + 1)) (by kernel_rfl) (nextI j)), trivial⟩⟩
          omega
      · skip
        have h_7p := of_decide_eq_false h_7
        refine wp_exit ?_
        refine thenX ?_
        refine thenX ?_
        refine blkX ?_
        refine thenN ?_
        refine seq ?_
        refine region [true] ?_
        refine q_assign (v := .bool true) rfl rfl ?_
        refine done ?_
        refine thenN ?_
        refine wp_ret ?_
        refine ret1v (.bool true) rfl rfl ?_
        exact ⟨z9j, true, rfl, fun _ => ⟨by omega, by omega⟩⟩

theorem sameBytes_c {M : Nat → Prop} (w : World) (xs : List UInt8) (a : Option Addr) (n c : Nat) (b : Option Addr) (k d : Nat) (h : At M w (Sl 1 (xs.map encB) a n c)) (g : At M w (Sl 1 (xs.map encB) b k d)) (hn : n ≤ 2147483648) :
    Calls Tryd.prog 19 (List.toArray [.slice a n c, .slice b k d]) w (Ret No w fun v _ => v = .bool true) := by
  refine enter (n := 29) [(0, .slice a n c), (1, .slice b k d)] Tryd.func19 rfl (by kernel_rfl) ?_
  have hl := h.here.len; rw [List.length_map] at hl
  have gl := g.here.len; rw [List.length_map] at gl
  refine seq ?_
  refine region [true] ?_
  refine q_assign (v := .bool false) rfl rfl ?_
  refine done ?_
  refine thenN ?_
  refine seq ?_
  refine seq ?_
  refine region [true, true, true, true, true] ?_
  refine q_move (v := .slice a n c) rfl rfl ?_
  refine q_len rfl rfl el49 ?_
  refine q_move (v := .slice b k d) rfl rfl ?_
  refine q_len rfl rfl el49 ?_
  refine q_neq rfl rfl rfl ?_
  refine done ?_
  refine thenN ?_
  refine cond_b rfl (fun h_1 => ?_) (fun h_1 => ?_)
  · skip
    have h_2 := unT h_1
    have h_2p := of_decide_eq_false h_2
    exfalso; simp at h_2; omega
  · skip
    have h_3 := unF h_1
    have h_3p := of_decide_eq_true h_3
    refine wp_skip ?_
    refine thenN ?_
    refine seq ?_
    refine seq ?_
    refine region [true] ?_
    refine q_assign (v := .int .i64 0) rfl rfl ?_
    refine done ?_
    refine thenN ?_
    refine blk ?_
    refine loopN [12, 13, 14, 15, 18, 19, 20, 21, 22, 23, 24, 25, 26, 6, 27, 28, 4, 16, 17, 5] (fun k9 R9 wJ => ∃ (j : Nat), R9 = [(5, .int .i64 (j : Int))] ∧ (j ≤ n) ∧ (Evo No w wJ) ∧ k9 = n - j) ⟨_, _, ⟨0, rfl, Nat.zero_le _, Evo.refl _ _, rfl⟩, ⟨(by kernel_rfl), trivial⟩⟩ (fun k9 R9 u_4 w1 J_5 => ?_)
    obtain ⟨j, rfl, hj, z9, rfl⟩ := J_5
    have e0_1 : Evo M w w1 := z9.no
    refine seq ?_
    refine seq ?_
    refine region [true, true, true, true] ?_
    refine q_move (v := .int .i64 (j : Int)) rfl rfl ?_
    refine q_move (v := .slice a n c) rfl rfl ?_
    refine q_len rfl rfl el49 ?_
    refine q_lss rfl rfl rfl ?_
    refine done ?_
    refine thenN ?_
    refine cond_b rfl (fun h_6 => ?_) (fun h_6 => ?_)
    · skip
      have h_6p := of_decide_eq_true h_6
      refine wp_skip ?_
      refine thenN ?_
      refine seq ?_
      refine blk ?_
      refine seq ?_
      refine regionD No (.q 0 (.q 1 (.q 2 (.q 3 (.q 4 (.q 5 (.q 6 (.q 7 (.q 8 (.q 9 (.nil))))))))))) mixed (by kernel_rfl) (by kernel_rfl) (by kernel_rfl) (fun w2 s2 => ?_)
      have e0_2 : Evo M w w2 := e0_1.trans s2.no
      have z2 : Evo No w w2 := z9.trans s2.no
      have rgr_7_2 : Evo No w1 w2 := s2.no
      refine q_move (v := .slice a n c) rfl rfl ?_
      refine q_move (v := .int .i64 (j : Int)) rfl rfl ?_
      obtain ⟨x_8, hx_8⟩ := Sl.get (xs := xs) h.here (i := (j : Int)) (by omega) (by omega)
      have Ax_8 := Sl.areaAt h (Sl.map_get hx_8)
      refine q_indexS' rfl rfl rfl el49 (h.here.there (by omega)).1 (by omega) (by omega) ?_
      refine q_load rfl rfl pl5 (fun w0 e0 => (Ax_8.via e0_1 noX) w0 e0 0 _ rfl) ?_
      refine q_move (v := .slice b k d) rfl rfl ?_
      refine q_move (v := .int .i64 (j : Int)) rfl rfl ?_
      obtain ⟨x_9, hx_9⟩ := Sl.get (xs := xs) g.here (i := (j : Int)) (by omega) (by omega)
      have Ax_9 := Sl.areaAt g (Sl.map_get hx_9)
      refine q_indexS' rfl rfl rfl el49 (g.here.there (by omega)).1 (by omega) (by omega) ?_
      have hc9 : x_9 = x_8 := Option.some.inj (hx_9.symm.trans hx_8)
      refine q_load rfl rfl pl5 (fun w0 e0 => (Ax_9.via e0_1 noX) w0 e0 0 _ rfl) ?_
      refine q_eql rfl rfl rfl ?_
      refine q_assign (v := .bool (decide ((x_8.toNat : Int) = (x_9.toNat : Int)))) rfl rfl ?_
      refine done ?_
      refine thenN ?_
      refine seq ?_
      refine region [true, true] ?_
      refine q_move (v := .bool (decide ((x_8.toNat : Int) = (x_9.toNat : Int)))) rfl rfl ?_
      refine q_not rfl rfl ?_
      refine done ?_
      refine thenN ?_
      refine cond_b rfl (fun h_10 => ?_) (fun h_10 => ?_)
      · skip
        have h_11 := unT h_10
        have h_11p := of_decide_eq_false h_11
        exfalso; rw [hc9] at h_11; simp at h_11
      · skip
        have h_12 := unF h_10
        have h_12p := of_decide_eq_true h_12
        refine wp_skip ?_
        refine blkN ?_
        refine thenN ?_
        refine region [true, true, true] ?_
        refine q_move (v := .int .i64 (j : Int)) rfl rfl ?_
        refine q_add rfl rfl rfl (wi64 (by omega) (by omega)) ?_
        refine q_assign (v := .int .i64 ((j : Int) + 1)) rfl rfl ?_
        refine done ?_
        refine thenN ?_
        refine ⟨_, _, ?_, ⟨j + 1, rfl, by omega, z2, rfl⟩, Env.near_at 40 (by kernel_rfl) (by kernel_rfl) ⟨(Eq.trans (b := Go.Value.int .i64 ((j : Int) + 1)) (by kernel_rfl) (nextI j)), trivial⟩⟩
        omega
    · skip
      have h_6p := of_decide_eq_false h_6
      refine wp_exit ?_
      refine thenX ?_
      refine thenX ?_
      refine blkX ?_
      refine thenN ?_
      refine seq ?_
      refine region [true] ?_
      refine q_assign (v := .bool true) rfl rfl ?_
      refine done ?_
      refine thenN ?_
      refine wp_ret ?_
      refine ret1v (.bool true) rfl rfl ?_
      exact ⟨z9, rfl⟩

theorem refPairsO_c {M : Nat → Prop} (w : World) (hM : Old M w) (xs : List (Int × Int)) (a : Option Addr) (n c : Nat) (h : At M w (Sl 2 (xs.map encP) a n c)) (hn : n ≤ 2147483648) :
    Calls Tryd.prog 34 (List.toArray [.slice a n c]) w (Ret No w fun v w9 => ∃ a9 c9, v = .slice a9 n c9 ∧ Own 2 61 (xs.map encP) a9 n c9 w9 ∧ ∀ b, OwnB a9 b → w.heap.size ≤ b) := by
  refine enter (n := 22) [(0, .slice a n c)] Tryd.func34 rfl (by kernel_rfl) ?_
  refine seq ?_
  refine region [true] ?_
  refine q_assign (v := .slice none 0 0) rfl rfl ?_
  refine done ?_
  refine thenN ?_
  refine seq ?_
  refine region [true, true, false, true] ?_
  refine q_move (v := .slice a n c) rfl rfl ?_
  refine q_len rfl rfl el28 ?_
  refine l_make0 (c := n) Keep.any rfl rfl rfl (by first | rfl | omega) ap28 (by omega) (by decide) (fun am_1 w1 s1 Om_1 nm_1 => ?_)
  have e0_1 : Evo M w w1 := s1.no
  have z1 : Evo No w w1 := s1.no
  refine q_assign (v := .slice am_1 0 n) rfl rfl ?_
  refine done ?_
  refine thenN ?_
  refine seq ?_
  refine seq ?_
  refine region [true] ?_
  refine q_assign (v := .int .i64 0) rfl rfl ?_
  refine done ?_
  refine thenN ?_
  refine blk ?_
  refine loopN [8, 9, 10, 11, 14, 15, 16, 17, 18, 19, 20, 3, 12, 13, 4] (fun k9 R9 wJ => ∃ (j : Nat), ∃ (b9 : Option Addr), ∃ (d9 : Nat), R9 = [(3, .slice b9 j d9), (4, .int .i64 (j : Int))] ∧ (j ≤ n) ∧ (Own 2 61 ((xs.map encP).take j) b9 j d9 wJ) ∧ (∀ b, OwnB b9 b → w.heap.size ≤ b) ∧ (Evo No w wJ) ∧ k9 = n - j) ⟨_, _, ⟨0, am_1, n, rfl, Nat.zero_le _, Om_1, (fun b hb => hb.2 ▸ Nat.le_trans (Evo.refl No _).size nm_1), z1, rfl⟩, ⟨(by kernel_rfl), (by kernel_rfl), trivial⟩⟩ (fun k9 R9 u_2 w2 J_3 => ?_)
  obtain ⟨j, b9, d9, rfl, hj, O9, lo9, z9, rfl⟩ := J_3
  have e0_2 : Evo M w w2 := z9.no
  skip
  refine seq ?_
  refine seq ?_
  refine region [true, true, true, true] ?_
  refine q_move (v := .int .i64 (j : Int)) rfl rfl ?_
  refine q_move (v := .slice a n c) rfl rfl ?_
  refine q_len rfl rfl el28 ?_
  refine q_lss rfl rfl rfl ?_
  refine done ?_
  refine thenN ?_
  refine cond_b rfl (fun h_4 => ?_) (fun h_4 => ?_)
  · skip
    have h_4p := of_decide_eq_true h_4
    refine wp_skip ?_
    refine thenN ?_
    refine seq ?_
    refine blk ?_
    refine region [true, true, true, true, false, false, false, true] ?_
    refine q_move (v := .slice b9 j d9) rfl rfl ?_
    refine q_move (v := .slice a n c) rfl rfl ?_
    refine q_move (v := .int .i64 (j : Int)) rfl rfl ?_
    obtain ⟨x_5, hx_5⟩ := Sl.get (xs := xs) h.here (i := (j : Int)) (by omega) (by omega)
    have Ax_5 := Sl.areaAt h (Sl.map_get hx_5)
    refine q_indexS' rfl rfl rfl el28 (h.here.there (by omega)).1 (by omega) (by omega) ?_
    refine l_loadN trivial rfl rfl ag61 rfl (Ax_5.now e0_2) ?_
    refine l_buildSlice (M := M) (e := 61) (cs := [.int .i64 x_5.1, .int .i64 x_5.2]) Keep.any (hM.on z9) rfl rfl (fun _ => by kernel_rfl) (fun k_6 w3 s3 fk_6 nk_6 => ?_)
    have e0_3 : Evo M w w3 := e0_2.trans s3.no
    have z3 : Evo No w w3 := z9.trans s3.no
    have O_7 := O9.no s3
    refine l_append (k := 2) (news := [[.int .i64 x_5.1, .int .i64 x_5.2]]) Keep.any rfl rfl rfl ap28 O_7 (Src.of un28 (Sl.ofBlk (k := 2) (rows := [[.int .i64 x_5.1, .int .i64 x_5.2]]) (fk_6.now (Evo.refl M _)) rfl (by simp) rfl)) (Sl.ofBlk (k := 2) (rows := [[.int .i64 x_5.1, .int .i64 x_5.2]]) (fk_6.now (Evo.refl M _)) rfl (by simp) rfl).len (Sl.ofBlk (k := 2) (rows := [[.int .i64 x_5.1, .int .i64 x_5.2]]) (fk_6.now (Evo.refl M _)) rfl (by simp) rfl).shape (by omega) (by decide) (fun am_8 cm_8 w4 s4 Om_8 fm_8 nm_8 => ?_)
    have lom_8_0 := own_lo fm_8 lo9 e0_3.size
    have lom_8_w := own_lo fm_8 lo9 z3.size
    have e0_4 : Evo M w w4 := Evo.own e0_3 s4 lo9
    have z4 : Evo No w w4 := Evo.own z3 s4 lo9
    refine q_assign (v := .slice am_8 (j + 1) cm_8) rfl rfl ?_
    refine done ?_
    refine blkN ?_
    refine thenN ?_
    refine region [true, true, true] ?_
    refine q_move (v := .int .i64 (j : Int)) rfl rfl ?_
    refine q_add rfl rfl rfl (wi64 (by omega) (by omega)) ?_
    refine q_assign (v := .int .i64 ((j : Int) + 1)) rfl rfl ?_
    refine done ?_
    refine thenN ?_
    have ht : (xs.map encP).take (j + 1) = (xs.map encP).take j ++ [encP x_5] := take_snoc (i := j) hx_5
    refine ⟨_, _, ?_, ⟨j + 1, am_8, cm_8, rfl, by omega, by rw [ht]; exact Om_8, lom_8_w, z4, rfl⟩, Env.near_at 32 (by kernel_rfl) (by kernel_rfl) ⟨(show _ = Value.slice am_8 (j + 1) cm_8 from rfl), (Eq.trans (b := Go.Value.int .i64 ((j : Int) + 1)) (by kernel_rfl) (nextI j)), trivial⟩⟩
    omega
  · skip
    have h_4p := of_decide_eq_false h_4
    refine wp_exit ?_
    refine thenX ?_
    refine thenX ?_
    refine blkX ?_
    refine thenN ?_
    refine seq ?_
    refine region [true, true] ?_
    refine q_move (v := .slice b9 j d9) rfl rfl ?_
    refine q_assign (v := .slice b9 j d9) rfl rfl ?_
    refine done ?_
    refine thenN ?_
    refine wp_ret ?_
    refine ret1v (.slice b9 j d9) rfl rfl ?_
    have hjn : j = n := by omega
    subst hjn
    have hl := h.here.len
    rw [List.take_of_length_le (by omega)] at *
    exact ⟨z9, _, _, rfl, O9, lo9⟩

theorem refObjsO_c {M : Nat → Prop} (w : World) (hM : Old M w) (xs : List Obj) (a : Option Addr) (n c : Nat) (h : At M w (Sl 3 (xs.map encO) a n c)) (hn : n ≤ 2147483648) :
    Calls Tryd.prog 35 (List.toArray [.slice a n c]) w (Ret No w fun v w9 => ∃ a9 c9, v = .slice a9 n c9 ∧ Own 3 46 (xs.map encO) a9 n c9 w9 ∧ ∀ b, OwnB a9 b → w.heap.size ≤ b) := by
  refine enter (n := 22) [(0, .slice a n c)] Tryd.func35 rfl (by kernel_rfl) ?_
  refine seq ?_
  refine region [true] ?_
  refine q_assign (v := .slice none 0 0) rfl rfl ?_
  refine done ?_
  refine thenN ?_
  refine seq ?_
  refine region [true, true, false, true] ?_
  refine q_move (v := .slice a n c) rfl rfl ?_
  refine q_len rfl rfl el29 ?_
  refine l_make0 (c := n) Keep.any rfl rfl rfl (by first | rfl | omega) ap29 (by omega) (by decide) (fun am_1 w1 s1 Om_1 nm_1 => ?_)
  have e0_1 : Evo M w w1 := s1.no
  have z1 : Evo No w w1 := s1.no
  refine q_assign (v := .slice am_1 0 n) rfl rfl ?_
  refine done ?_
  refine thenN ?_
  refine seq ?_
  refine seq ?_
  refine region [true] ?_
  refine q_assign (v := .int .i64 0) rfl rfl ?_
  refine done ?_
  refine thenN ?_
  refine blk ?_
  refine loopN [8, 9, 10, 11, 14, 15, 16, 17, 18, 19, 20, 3, 12, 13, 4] (fun k9 R9 wJ => ∃ (j : Nat), ∃ (b9 : Option Addr), ∃ (d9 : Nat), R9 = [(3, .slice b9 j d9), (4, .int .i64 (j : Int))] ∧ (j ≤ n) ∧ (Own 3 46 ((xs.map encO).take j) b9 j d9 wJ) ∧ (∀ b, OwnB b9 b → w.heap.size ≤ b) ∧ (Evo No w wJ) ∧ k9 = n - j) ⟨_, _, ⟨0, am_1, n, rfl, Nat.zero_le _, Om_1, (fun b hb => hb.2 ▸ Nat.le_trans (Evo.refl No _).size nm_1), z1, rfl⟩, ⟨(by kernel_rfl), (by kernel_rfl), trivial⟩⟩ (fun k9 R9 u_2 w2 J_3 => ?_)
  obtain ⟨j, b9, d9, rfl, hj, O9, lo9, z9, rfl⟩ := J_3
  have e0_2 : Evo M w w2 := z9.no
  skip
  refine seq ?_
  refine seq ?_
  refine region [true, true, true, true] ?_
  refine q_move (v := .int .i64 (j : Int)) rfl rfl ?_
  refine q_move (v := .slice a n c) rfl rfl ?_
  refine q_len rfl rfl el29 ?_
  refine q_lss rfl rfl rfl ?_
  refine done ?_
  refine thenN ?_
  refine cond_b rfl (fun h_4 => ?_) (fun h_4 => ?_)
  · skip
    have h_4p := of_decide_eq_true h_4
    refine wp_skip ?_
    refine thenN ?_
    refine seq ?_
    refine blk ?_
    refine region [true, true, true, true, false, false, false, true] ?_
    refine q_move (v := .slice b9 j d9) rfl rfl ?_
    refine q_move (v := .slice a n c) rfl rfl ?_
    refine q_move (v := .int .i64 (j : Int)) rfl rfl ?_
    obtain ⟨x_5, hx_5⟩ := Sl.get (xs := xs) h.here (i := (j : Int)) (by omega) (by omega)
    have Ax_5 := Sl.areaAt h (Sl.map_get hx_5)
    refine q_indexS' rfl rfl rfl el29 (h.here.there (by omega)).1 (by omega) (by omega) ?_
    refine l_loadN trivial rfl rfl ag46 rfl (Ax_5.now e0_2) ?_
    refine l_buildSlice (M := M) (e := 46) (cs := [.string x_5.name, .int .i64 x_5.len, .int .u32 x_5.sum]) Keep.any (hM.on z9) rfl rfl (fun _ => by kernel_rfl) (fun k_6 w3 s3 fk_6 nk_6 => ?_)
    have e0_3 : Evo M w w3 := e0_2.trans s3.no
    have z3 : Evo No w w3 := z9.trans s3.no
    have O_7 := O9.no s3
    refine l_append (k := 3) (news := [[.string x_5.name, .int .i64 x_5.len, .int .u32 x_5.sum]]) Keep.any rfl rfl rfl ap29 O_7 (Src.of un29 (Sl.ofBlk (k := 3) (rows := [[.string x_5.name, .int .i64 x_5.len, .int .u32 x_5.sum]]) (fk_6.now (Evo.refl M _)) rfl (by simp) rfl)) (Sl.ofBlk (k := 3) (rows := [[.string x_5.name, .int .i64 x_5.len, .int .u32 x_5.sum]]) (fk_6.now (Evo.refl M _)) rfl (by simp) rfl).len (Sl.ofBlk (k := 3) (rows := [[.string x_5.name, .int .i64 x_5.len, .int .u32 x_5.sum]]) (fk_6.now (Evo.refl M _)) rfl (by simp) rfl).shape (by omega) (by decide) (fun am_8 cm_8 w4 s4 Om_8 fm_8 nm_8 => ?_)
    have lom_8_0 := own_lo fm_8 lo9 e0_3.size
    have lom_8_w := own_lo fm_8 lo9 z3.size
    have e0_4 : Evo M w w4 := Evo.own e0_3 s4 lo9
    have z4 : Evo No w w4 := Evo.own z3 s4 lo9
    refine q_assign (v := .slice am_8 (j + 1) cm_8) rfl rfl ?_
    refine done ?_
    refine blkN ?_
    refine thenN ?_
    refine region [true, true, true] ?_
    refine q_move (v := .int .i64 (j : Int)) rfl rfl ?_
    refine q_add rfl rfl rfl (wi64 (by omega) (by omega)) ?_
    refine q_assign (v := .int .i64 ((j : Int) + 1)) rfl rfl ?_
    refine done ?_
    refine thenN ?_
    have ht : (xs.map encO).take (j + 1) = (xs.map encO).take j ++ [encO x_5] := take_snoc (i := j) hx_5
    refine ⟨_, _, ?_, ⟨j + 1, am_8, cm_8, rfl, by omega, by rw [ht]; exact Om_8, lom_8_w, z4, rfl⟩, Env.near_at 32 (by kernel_rfl) (by kernel_rfl) ⟨(show _ = Value.slice am_8 (j + 1) cm_8 from rfl), (Eq.trans (b := Go.Value.int .i64 ((j : Int) + 1)) (by kernel_rfl) (nextI j)), trivial⟩⟩
    omega
  · skip
    have h_4p := of_decide_eq_false h_4
    refine wp_exit ?_
    refine thenX ?_
    refine thenX ?_
    refine blkX ?_
    refine thenN ?_
    refine seq ?_
    refine region [true, true] ?_
    refine q_move (v := .slice b9 j d9) rfl rfl ?_
    refine q_assign (v := .slice b9 j d9) rfl rfl ?_
    refine done ?_
    refine thenN ?_
    refine wp_ret ?_
    refine ret1v (.slice b9 j d9) rfl rfl ?_
    have hjn : j = n := by omega
    subst hjn
    have hl := h.here.len
    rw [List.take_of_length_le (by omega)] at *
    exact ⟨z9, _, _, rfl, O9, lo9⟩

theorem refMani_c {M : Nat → Prop} (w : World) (hM : Old M w) (m : Mani) (ea : Option Addr) (en ec : Nat) (oa : Option Addr) (on oc : Nat) (he : At M w (Sl 2 (m.epochs.map encP) ea en ec)) (ho : At M w (Sl 3 (m.objects.map encO) oa on oc)) (eN : en ≤ 2147483648) (oN : on ≤ 2147483648) :
    Calls Tryd.prog 17 (List.toArray [.agg (List.toArray [.int .i64 m.id, .int .i64 m.base, .int .i64 m.end_, .int .i64 m.time, .slice ea en ec, .slice oa on oc])]) w (Ret No w fun v w9 => ∃ a9 c9 a8 c8, v = .agg (List.toArray [.int .i64 m.id, .int .i64 m.base, .int .i64 m.end_, .int .i64 m.time, .slice a9 en c9, .slice a8 on c8]) ∧ Own 2 61 (m.epochs.map encP) a9 en c9 w9 ∧ (∀ b, OwnB a9 b → w.heap.size ≤ b) ∧ Own 3 46 (m.objects.map encO) a8 on c8 w9 ∧ (∀ b, OwnB a8 b → w.heap.size ≤ b) ∧ ∀ b, OwnB a9 b → ¬ OwnB a8 b) := by
  refine enter (n := 18) [(0, .agg (List.toArray [.int .i64 m.id, .int .i64 m.base, .int .i64 m.end_, .int .i64 m.time, .slice ea en ec, .slice oa on oc]))] Tryd.func17 rfl (by kernel_rfl) ?_
  refine seq ?_
  refine region [false, false] ?_
  refine l_box (M := M) Keep.any hM rfl rfl (fun k_1 w1 s1 fk_1 nk_1 => ?_)
  have e0_1 : Evo M w w1 := s1.no
  have z1 : Evo No w w1 := s1.no
  refine l_alloc (M := M) Keep.any (hM.on z1) rfl ze31 (fun k_2 w2 s2 ck_2 nk_2 ok_2 => ?_)
  have lk_2_0 : w.heap.size ≤ k_2 := Nat.le_trans e0_1.size nk_2
  have lk_2_1 : w1.heap.size ≤ k_2 := Nat.le_trans (Evo.refl M _).size nk_2
  have lk_2_w : w.heap.size ≤ k_2 := Nat.le_trans z1.size nk_2
  have e0_2 : Evo M w w2 := e0_1.trans s2.no
  have e1_2 : Evo M w1 w2 := s2.no
  have z2 : Evo No w w2 := z1.trans s2.no
  have hlk_2 := ck_2.lt
  refine done ?_
  refine thenN ?_
  refine seq ?_
  refine regionD (· = k_2) (.q 0 (.q 1 (.q 2 (.q 3 (.q 4 (.q 5 (.q 6 (.q 7 (.q 8 (.q 9 (.q 11 (.q 12 (.l 10 (.l 13 (.q 14 (.l 15 (.nil))))))))))))))))) mixed (by kernel_rfl) (by kernel_rfl) (by kernel_rfl) (fun w3 s3 => ?_)
  have e0_3 : Evo M w w3 := e0_2.trans s3.no
  have e1_3 : Evo M w1 w3 := e1_2.trans s3.no
  have e2_3 : Evo (Plus M k_2) w2 w3 := s3.no
  have z3 : Evo No w w3 := z2.trans s3.no
  have c_3 := ck_2.no s3
  have rgr_4_3 : Evo (· = k_2) w2 w3 := s3.no
  refine q_fieldAddr rfl rfl fl31_0 ?_
  refine q_loadB rfl rfl pl3 (fk_1.via e1_2 (freshX lk_2_1)) rfl ?_
  refine q_fieldAddr rfl rfl fl31_1 ?_
  refine q_loadB rfl rfl pl2 (fk_1.via e1_2 (freshX lk_2_1)) rfl ?_
  refine q_fieldAddr rfl rfl fl31_2 ?_
  refine q_loadB rfl rfl pl2 (fk_1.via e1_2 (freshX lk_2_1)) rfl ?_
  refine q_fieldAddr rfl rfl fl31_3 ?_
  refine q_loadB rfl rfl pl2 (fk_1.via e1_2 (freshX lk_2_1)) rfl ?_
  refine q_fieldAddr rfl rfl fl31_4 ?_
  refine q_loadB rfl rfl pl28 (fk_1.via e1_2 (freshX lk_2_1)) rfl ?_
  refine q_fieldAddr rfl rfl fl31_5 ?_
  refine q_loadB rfl rfl pl29 (fk_1.via e1_2 (freshX lk_2_1)) rfl ?_
  refine l_call (Keep.evo rgr_4_3 noX) rfl (refPairsO_c (M := (Plus M k_2)) w3 (ok_2.on e2_3) _ ea en ec (At.up (N := (Plus M k_2)) he e0_3 (fun x0 h1 h0 => by rcases h0 with (h0 | h0) <;> first | exact h0 | omega)) (by omega)) en34 rfl rfl (fun v_5 w4 s4 q_6 => ?_)
  have e0_4 : Evo M w w4 := e0_3.trans s4.no
  have e1_4 : Evo M w1 w4 := e1_3.trans s4.no
  have e2_4 : Evo (Plus M k_2) w2 w4 := e2_3.trans s4.no
  have z4 : Evo No w w4 := z3.trans s4.no
  have c_7 := c_3.no s4
  have rgr_4_4 : Evo (· = k_2) w2 w4 := rgr_4_3.trans s4.no
  obtain ⟨a7, c7, rfl, O7, lo7⟩ := q_6
  have lo_8 := own_up lo7 e0_3.size
  have lo_9 := own_up lo7 e1_3.size
  have lo_10 := own_up lo7 e2_3.size
  have lo_11 : ∀ b, OwnB a7 b → w.heap.size ≤ b := own_up lo7 z3.size
  have ob_12 : ∀ b0, OwnB a7 b0 → b0 ≠ k_2 := fun b0 hb0 e0 => absurd (lo7 b0 hb0) (by have h0 := c_3.lt; omega)
  refine l_call (Keep.evo rgr_4_4 noX) rfl (refObjsO_c (M := (Plus M k_2)) w4 (ok_2.on e2_4) _ oa on oc (At.up (N := (Plus M k_2)) ho e0_4 (fun x0 h1 h0 => by rcases h0 with (h0 | h0) <;> first | exact h0 | omega)) (by omega)) en35 rfl rfl (fun v_13 w5 s5 q_14 => ?_)
  have e0_5 : Evo M w w5 := e0_4.trans s5.no
  have e1_5 : Evo M w1 w5 := e1_4.trans s5.no
  have e2_5 : Evo (Plus M k_2) w2 w5 := e2_4.trans s5.no
  have z5 : Evo No w w5 := z4.trans s5.no
  have c_15 := c_7.no s5
  have O_16 := O7.no s5
  have rgr_4_5 : Evo (· = k_2) w2 w5 := rgr_4_4.trans s5.no
  obtain ⟨a8, c8, rfl, O8, lo8⟩ := q_14
  have lo_17 := own_up lo8 e0_4.size
  have lo_18 := own_up lo8 e1_4.size
  have lo_19 := own_up lo8 e2_4.size
  have lo_20 : ∀ b, OwnB a8 b → w.heap.size ≤ b := own_up lo8 z4.size
  have D_21 : ∀ b, OwnB a8 b → ¬ OwnB _ b := fun b hb hx => absurd (lo8 b hb) (by have h0 := O7.lt b hx; omega)
  have ob_22 : ∀ b0, OwnB a8 b0 → b0 ≠ k_2 := fun b0 hb0 e0 => absurd (lo8 b0 hb0) (by have h0 := c_7.lt; omega)
  refine q_build (.agg (List.toArray [.int .i64 m.id, .int .i64 m.base, .int .i64 m.end_, .int .i64 m.time, .slice a7 en c7, .slice a8 on c8])) rfl rfl (fun _ => by kernel_rfl) ?_
  refine l_store (Keep.evo rgr_4_5 (inX rfl)) rfl rfl c_15 rfl sz31 rfl (Nat.le_of_ble_eq_true rfl) rfl (cs' := [.int .i64 m.id, .int .i64 m.base, .int .i64 m.end_, .int .i64 m.time, .slice a7 en c7, .slice a8 on c8]) rfl (fun w6 s6 c_23 => ?_)
  have e0_6 : Evo M w w6 := e0_5.fresh s6 lk_2_0
  have e1_6 : Evo M w1 w6 := e1_5.fresh s6 lk_2_1
  have e2_6 : Evo (Plus M k_2) w2 w6 := e2_5.fstep s6 (inX Plus.in)
  have z6 : Evo No w w6 := z5.fresh s6 lk_2_w
  have O_24 := O_16.on s6 (ob_12)
  have O_25 := O8.on s6 (ob_22)
  have rgr_4_6 : Evo (· = k_2) w2 w6 := rgr_4_5.fstep s6 (inX rfl)
  refine done ?_
  refine thenN ?_
  refine wp_ret ?_
  refine retCell (Q := fun _ _ _ => True) rfl rfl ag31 c_23 rfl ?_
  exact ⟨z6, _, _, _, _, rfl, O_24, lo_11, O_25, lo_20, (fun b hb hx => D_21 b hx hb)⟩
end Go.Proofs.YtnkafkikjcgogaaDoor
