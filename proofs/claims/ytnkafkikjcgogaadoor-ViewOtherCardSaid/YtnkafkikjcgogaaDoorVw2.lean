import Derived.Test.YtnkafkikjcgogaaDoorSxe
import Derived.Test.YtnkafkikjcgogaaDoorF2
import Derived.Test.YtnkafkikjcgogaaDoorProg
import Derived.Test.YtnkafkikjcgogaaDoorMod
import Derived.Test.YtnkafkikjcgogaaDoorVw1
set_option linter.unusedVariables false
set_option linter.unusedSimpArgs false
set_option maxRecDepth 4000
set_option maxHeartbeats 2000000
namespace Go.Proofs.YtnkafkikjcgogaaDoor
open Go.Sx F2

theorem equalPairs_c {M : Nat → Prop} (w : World) (xs ys : List (Int × Int)) (a1 a2 : Option Addr) (n1 c1 n2 c2 : Nat) (h1 : At M w (Sl 2 (xs.map encP) a1 n1 c1)) (h2 : At M w (Sl 2 (ys.map encP) a2 n2 c2)) (hn1 : n1 ≤ 2147483648) (hn2 : n2 ≤ 2147483648) :
    Calls Tryd.prog 48 (List.toArray [.slice a1 n1 c1, .slice a2 n2 c2]) w (Ret No w fun v _ => v = .bool (decide (xs = ys))) := by
  refine enter (n := 26) [(0, .slice a1 n1 c1), (1, .slice a2 n2 c2)] Tryd.func48 rfl (by kernel_rfl) ?_
  refine seq ?_
  refine region [true] ?_
  refine q_assign (v := .bool false) rfl rfl ?_
  refine done ?_
  refine thenN ?_
  refine seq ?_
  refine seq ?_
  refine region [true, true, true, true, true] ?_
  refine q_move (v := .slice a1 n1 c1) rfl rfl ?_
  refine q_len rfl rfl el28 ?_
  refine q_move (v := .slice a2 n2 c2) rfl rfl ?_
  refine q_len rfl rfl el28 ?_
  refine q_neq rfl rfl rfl ?_
  refine done ?_
  refine thenN ?_
  refine cond_b rfl (fun h_1 => ?_) (fun h_1 => ?_)
  · skip
    have h_2 := unT h_1
    have h_2p := of_decide_eq_false h_2
    refine seq ?_
    refine region [true] ?_
    refine q_assign (v := .bool false) rfl rfl ?_
    refine done ?_
    refine thenN ?_
    refine wp_ret ?_
    refine thenR ?_
    refine ret1v (.bool false) rfl rfl ?_
    exact ⟨Evo.refl _ _, by rw [show decide (xs = ys) = false from decide_eq_false fun hh => by subst hh; have e1 := h1.here.len; have e2 := h2.here.len; omega]⟩
  · skip
    have h_3 := unF h_1
    have h_3p := of_decide_eq_true h_3
    refine wp_skip ?_
    refine thenN ?_
    refine seq ?_
    refine seq ?_
    refine region [true, true, true] ?_
    refine q_move (v := .slice a1 n1 c1) rfl rfl ?_
    refine q_len rfl rfl el28 ?_
    refine q_move (v := .int .i64 0) rfl rfl ?_
    refine done ?_
    refine thenN ?_
    refine blk ?_
    have hl1 := h1.here.len
    have hl2 := h2.here.len
    rw [List.length_map] at hl1 hl2
    refine loopN [14, 15, 5, 16, 17, 18, 19, 20, 21, 22, 23, 24, 4, 25, 13] (fun k9 R9 wJ => ∃ (j : Nat), R9 = [(13, .int .i64 (j : Int))] ∧ (j ≤ n1) ∧ ((xs.drop j = ys.drop j) ↔ (xs = ys)) ∧ (Evo No w wJ) ∧ k9 = n1 - j) ⟨_, _, ⟨0, rfl, Nat.zero_le _, by simp, Evo.refl _ _, rfl⟩, ⟨(by kernel_rfl), trivial⟩⟩ (fun k9 R9 u_4 w1 J_5 => ?_)
    obtain ⟨j, rfl, hj, hp, z9, rfl⟩ := J_5
    have e0_1 : Evo M w w1 := z9.no
    refine seq ?_
    refine region [true] ?_
    refine q_lss rfl rfl rfl ?_
    refine done ?_
    refine thenN ?_
    refine seq ?_
    refine cond_b rfl (fun h_6 => ?_) (fun h_6 => ?_)
    · skip
      have h_6p := of_decide_eq_true h_6
      refine wp_skip ?_
      refine thenN ?_
      refine seq ?_
      refine blk ?_
      refine seq ?_
      refine region [true, true] ?_
      refine q_move (v := .int .i64 (j : Int)) rfl rfl ?_
      refine q_assign (v := .int .i64 (j : Int)) rfl rfl ?_
      refine done ?_
      refine thenN ?_
      refine seq ?_
      refine regionD No (.q 0 (.q 1 (.q 2 (.q 3 (.q 4 (.q 5 (.q 6 (.q 7 (.q 8 (.nil)))))))))) mixed (by kernel_rfl) (by kernel_rfl) (by kernel_rfl) (fun w2 s2 => ?_)
      have e0_2 : Evo M w w2 := e0_1.trans s2.no
      have z2 : Evo No w w2 := z9.trans s2.no
      have rgr_7_2 : Evo No w1 w2 := s2.no
      refine q_move (v := .slice a1 n1 c1) rfl rfl ?_
      refine q_move (v := .int .i64 (j : Int)) rfl rfl ?_
      obtain ⟨x_8, hx_8⟩ := Sl.get (xs := xs) h1.here (i := (j : Int)) (by omega) (by omega)
      have Ax_8 := Sl.areaAt h1 (Sl.map_get hx_8)
      refine q_indexS' rfl rfl rfl el28 (h1.here.there (by omega)).1 (by omega) (by omega) ?_
      refine q_loadN rfl rfl ag61 rfl (Ax_8.via e0_1 noX) ?_
      refine q_move (v := .slice a2 n2 c2) rfl rfl ?_
      refine q_move (v := .int .i64 (j : Int)) rfl rfl ?_
      obtain ⟨x_9, hx_9⟩ := Sl.get (xs := ys) h2.here (i := (j : Int)) (by omega) (by omega)
      have Ax_9 := Sl.areaAt h2 (Sl.map_get hx_9)
      refine q_indexS' rfl rfl rfl el28 (h2.here.there (by omega)).1 (by omega) (by omega) ?_
      refine q_loadN rfl rfl ag61 rfl (Ax_9.via e0_1 noX) ?_
      refine q_neOf rfl rfl rfl (fun w9 _ => Go.run_eqGuard_agg w9 _ _ _ _ _ _ eg61) rfl (fun w9 _ => eqT61 w9 x_8.1 x_8.2 x_9.1 x_9.2) ?_
      refine done ?_
      refine thenN ?_
      refine cond_b rfl (fun h_10 => ?_) (fun h_10 => ?_)
      · skip
        have h_10p := h_10
        have h_11 := unT h_10
        have h_11p := h_11
        simp only [Bool.and_eq_true, Bool.or_eq_true, Bool.and_eq_false_iff, Bool.or_eq_false_iff, Bool.not_eq_true', Bool.not_eq_false', decide_eq_true_eq, decide_eq_false_iff_not] at h_11p
        refine seq ?_
        refine region [true] ?_
        refine q_assign (v := .bool false) rfl rfl ?_
        refine done ?_
        refine thenN ?_
        refine wp_ret ?_
        refine blkR ?_
        refine thenR ?_
        refine thenR ?_
        refine blkR ?_
        refine thenR ?_
        refine ret1v (.bool false) rfl rfl ?_
        exact ⟨z2, by rw [show decide (xs = ys) = false from decide_eq_false fun hh => by have := (eq_from (j := j) hx_8 hx_9).1 (hp.2 hh); simp_all]⟩
      · skip
        have h_10p := h_10
        have h_12 := unF h_10
        have h_12p := h_12
        simp only [Bool.and_eq_true, Bool.or_eq_true, Bool.and_eq_false_iff, Bool.or_eq_false_iff, Bool.not_eq_true', Bool.not_eq_false', decide_eq_true_eq, decide_eq_false_iff_not] at h_12p
        refine wp_skip ?_
        refine blkN ?_
        refine thenN ?_
        refine region [true, true] ?_
        refine q_add rfl rfl rfl (wi64 (by omega) (by omega)) ?_
        refine q_move (v := .int .i64 ((j : Int) + 1)) rfl rfl ?_
        refine done ?_
        refine thenN ?_
        refine ⟨_, _, ?_, ⟨j + 1, rfl, by omega, by rw [← hp, eq_from (j := j) hx_8 hx_9]; simp_all [Prod.ext_iff], z2, rfl⟩, Env.near_at 30 (by kernel_rfl) (by kernel_rfl) ⟨(Eq.trans (b := Go.Value.int .i64 ((j : Int) + 1)) (by kernel_rfl) (nextI j)), trivial⟩⟩
        omega
    · skip
      have h_6p := of_decide_eq_false h_6
      refine wp_exit ?_
      refine thenX ?_
      refine thenX ?_
      refine blkX ?_
      refine thenN ?_
      refine seq ?_
      refine region [true] ?_
      refine q_assign (v := .bool true) rfl rfl ?_
      refine done ?_
      refine thenN ?_
      refine wp_ret ?_
      refine ret1v (.bool true) rfl rfl ?_
      exact ⟨z9, by rw [hp.1 (by rw [List.drop_eq_nil_of_le (by omega), List.drop_eq_nil_of_le (by omega)])]; simp⟩

theorem equalObjs_c {M : Nat → Prop} (w : World) (xs ys : List Obj) (a1 a2 : Option Addr) (n1 c1 n2 c2 : Nat) (h1 : At M w (Sl 3 (xs.map encO) a1 n1 c1)) (h2 : At M w (Sl 3 (ys.map encO) a2 n2 c2)) (hn1 : n1 ≤ 2147483648) (hn2 : n2 ≤ 2147483648) :
    Calls Tryd.prog 49 (List.toArray [.slice a1 n1 c1, .slice a2 n2 c2]) w (Ret No w fun v _ => v = .bool (decide (xs = ys))) := by
  refine enter (n := 26) [(0, .slice a1 n1 c1), (1, .slice a2 n2 c2)] Tryd.func49 rfl (by kernel_rfl) ?_
  refine seq ?_
  refine region [true] ?_
  refine q_assign (v := .bool false) rfl rfl ?_
  refine done ?_
  refine thenN ?_
  refine seq ?_
  refine seq ?_
  refine region [true, true, true, true, true] ?_
  refine q_move (v := .slice a1 n1 c1) rfl rfl ?_
  refine q_len rfl rfl el29 ?_
  refine q_move (v := .slice a2 n2 c2) rfl rfl ?_
  refine q_len rfl rfl el29 ?_
  refine q_neq rfl rfl rfl ?_
  refine done ?_
  refine thenN ?_
  refine cond_b rfl (fun h_1 => ?_) (fun h_1 => ?_)
  · skip
    have h_2 := unT h_1
    have h_2p := of_decide_eq_false h_2
    refine seq ?_
    refine region [true] ?_
    refine q_assign (v := .bool false) rfl rfl ?_
    refine done ?_
    refine thenN ?_
    refine wp_ret ?_
    refine thenR ?_
    refine ret1v (.bool false) rfl rfl ?_
    exact ⟨Evo.refl _ _, by rw [show decide (xs = ys) = false from decide_eq_false fun hh => by subst hh; have e1 := h1.here.len; have e2 := h2.here.len; omega]⟩
  · skip
    have h_3 := unF h_1
    have h_3p := of_decide_eq_true h_3
    refine wp_skip ?_
    refine thenN ?_
    refine seq ?_
    refine seq ?_
    refine region [true, true, true] ?_
    refine q_move (v := .slice a1 n1 c1) rfl rfl ?_
    refine q_len rfl rfl el29 ?_
    refine q_move (v := .int .i64 0) rfl rfl ?_
    refine done ?_
    refine thenN ?_
    refine blk ?_
    have hl1 := h1.here.len
    have hl2 := h2.here.len
    rw [List.length_map] at hl1 hl2
    refine loopN [14, 15, 5, 16, 17, 18, 19, 20, 21, 22, 23, 24, 4, 25, 13] (fun k9 R9 wJ => ∃ (j : Nat), R9 = [(13, .int .i64 (j : Int))] ∧ (j ≤ n1) ∧ ((xs.drop j = ys.drop j) ↔ (xs = ys)) ∧ (Evo No w wJ) ∧ k9 = n1 - j) ⟨_, _, ⟨0, rfl, Nat.zero_le _, by simp, Evo.refl _ _, rfl⟩, ⟨(by kernel_rfl), trivial⟩⟩ (fun k9 R9 u_4 w1 J_5 => ?_)
    obtain ⟨j, rfl, hj, hp, z9, rfl⟩ := J_5
    have e0_1 : Evo M w w1 := z9.no
    refine seq ?_
    refine region [true] ?_
    refine q_lss rfl rfl rfl ?_
    refine done ?_
    refine thenN ?_
    refine seq ?_
    refine cond_b rfl (fun h_6 => ?_) (fun h_6 => ?_)
    · skip
      have h_6p := of_decide_eq_true h_6
      refine wp_skip ?_
      refine thenN ?_
      refine seq ?_
      refine blk ?_
      refine seq ?_
      refine region [true, true] ?_
      refine q_move (v := .int .i64 (j : Int)) rfl rfl ?_
      refine q_assign (v := .int .i64 (j : Int)) rfl rfl ?_
      refine done ?_
      refine thenN ?_
      refine seq ?_
      refine regionD No (.q 0 (.q 1 (.q 2 (.q 3 (.q 4 (.q 5 (.q 6 (.q 7 (.q 8 (.nil)))))))))) mixed (by kernel_rfl) (by kernel_rfl) (by kernel_rfl) (fun w2 s2 => ?_)
      have e0_2 : Evo M w w2 := e0_1.trans s2.no
      have z2 : Evo No w w2 := z9.trans s2.no
      have rgr_7_2 : Evo No w1 w2 := s2.no
      refine q_move (v := .slice a1 n1 c1) rfl rfl ?_
      refine q_move (v := .int .i64 (j : Int)) rfl rfl ?_
      obtain ⟨x_8, hx_8⟩ := Sl.get (xs := xs) h1.here (i := (j : Int)) (by omega) (by omega)
      have Ax_8 := Sl.areaAt h1 (Sl.map_get hx_8)
      refine q_indexS' rfl rfl rfl el29 (h1.here.there (by omega)).1 (by omega) (by omega) ?_
      refine q_loadN rfl rfl ag46 rfl (Ax_8.via e0_1 noX) ?_
      refine q_move (v := .slice a2 n2 c2) rfl rfl ?_
      refine q_move (v := .int .i64 (j : Int)) rfl rfl ?_
      obtain ⟨x_9, hx_9⟩ := Sl.get (xs := ys) h2.here (i := (j : Int)) (by omega) (by omega)
      have Ax_9 := Sl.areaAt h2 (Sl.map_get hx_9)
      refine q_indexS' rfl rfl rfl el29 (h2.here.there (by omega)).1 (by omega) (by omega) ?_
      refine q_loadN rfl rfl ag46 rfl (Ax_9.via e0_1 noX) ?_
      refine q_neOf rfl rfl rfl (fun w9 _ => Go.run_eqGuard_agg w9 _ _ _ _ _ _ eg46) rfl (fun w9 _ => eqT46 w9 x_8.name x_8.len x_8.sum x_9.name x_9.len x_9.sum) ?_
      refine done ?_
      refine thenN ?_
      refine cond_b rfl (fun h_10 => ?_) (fun h_10 => ?_)
      · skip
        have h_10p := h_10
        have h_11 := unT h_10
        have h_11p := h_11
        simp only [Bool.and_eq_true, Bool.or_eq_true, Bool.and_eq_false_iff, Bool.or_eq_false_iff, Bool.not_eq_true', Bool.not_eq_false', decide_eq_true_eq, decide_eq_false_iff_not] at h_11p
        refine seq ?_
        refine region [true] ?_
        refine q_assign (v := .bool false) rfl rfl ?_
        refine done ?_
        refine thenN ?_
        refine wp_ret ?_
        refine blkR ?_
        refine thenR ?_
        refine thenR ?_
        refine blkR ?_
        refine thenR ?_
        refine ret1v (.bool false) rfl rfl ?_
        exact ⟨z2, by rw [show decide (xs = ys) = false from decide_eq_false fun hh => by have := (eq_from (j := j) hx_8 hx_9).1 (hp.2 hh); simp_all]⟩
      · skip
        have h_10p := h_10
        have h_12 := unF h_10
        have h_12p := h_12
        simp only [Bool.and_eq_true, Bool.or_eq_true, Bool.and_eq_false_iff, Bool.or_eq_false_iff, Bool.not_eq_true', Bool.not_eq_false', decide_eq_true_eq, decide_eq_false_iff_not] at h_12p
        refine wp_skip ?_
        refine blkN ?_
        refine thenN ?_
        refine region [true, true] ?_
        refine q_add rfl rfl rfl (wi64 (by omega) (by omega)) ?_
        refine q_move (v := .int .i64 ((j : Int) + 1)) rfl rfl ?_
        refine done ?_
        refine thenN ?_
        refine ⟨_, _, ?_, ⟨j + 1, rfl, by omega, by rw [← hp, eq_from (j := j) hx_8 hx_9]; simp_all [Obj.eqIff], z2, rfl⟩, Env.near_at 30 (by kernel_rfl) (by kernel_rfl) ⟨(Eq.trans (b := Go.Value.int .i64 ((j : Int) + 1)) (by kernel_rfl) (nextI j)), trivial⟩⟩
        omega
    · skip
      have h_6p := of_decide_eq_false h_6
      refine wp_exit ?_
      refine thenX ?_
      refine thenX ?_
      refine blkX ?_
      refine thenN ?_
      refine seq ?_
      refine region [true] ?_
      refine q_assign (v := .bool true) rfl rfl ?_
      refine done ?_
      refine thenN ?_
      refine wp_ret ?_
      refine ret1v (.bool true) rfl rfl ?_
      exact ⟨z9, by rw [hp.1 (by rw [List.drop_eq_nil_of_le (by omega), List.drop_eq_nil_of_le (by omega)])]; simp⟩

theorem epochRight_c {M : Nat → Prop} (w : World) (hM : Old M w) (x : Int × Int) :
    Calls Tryd.prog 75 (List.toArray [.agg (encP x).toArray]) w (Ret No w fun v _ => v = .bool (rightP x)) := by
  refine enter (n := 21) [(0, .agg (List.toArray [.int .i64 x.1, .int .i64 x.2]))] Tryd.func75 rfl (by kernel_rfl) ?_
  refine seq ?_
  refine region [false, true] ?_
  refine l_box (M := M) Keep.any hM rfl rfl (fun k_1 w1 s1 fk_1 nk_1 => ?_)
  have e0_1 : Evo M w w1 := s1.no
  have z1 : Evo No w w1 := s1.no
  refine q_assign (v := .bool false) rfl rfl ?_
  refine done ?_
  refine thenN ?_
  refine seq ?_
  refine region [true, false, true, true, true, false, true, true, true, true, false, true, true, true, true, false, true, true, true] ?_
  refine q_fieldAddr rfl rfl fl61_0 ?_
  refine l_loadB trivial rfl rfl pl3 (fk_1.now (Evo.refl M _)) rfl ?_
  refine q_geq rfl rfl rfl ?_
  refine q_move (v := .bool (decide (0 ≤ x.1))) rfl rfl ?_
  rcases bsplit (decide (0 ≤ x.1)) with h_2 | h_2
  · skip
    have h_2p := of_decide_eq_true h_2
    refine q_fieldAddr (gtt h_2) rfl fl61_0 ?_
    refine l_loadB trivial (gtt h_2) rfl pl3 (fk_1.now (Evo.refl M _)) rfl ?_
    refine q_leq (gtt h_2) rfl rfl ?_
    refine q_pick_bt (v := .bool (decide (x.1 ≤ 1073741824))) rfl rfl h_2 rfl ?_
    refine q_move (v := .bool (decide (x.1 ≤ 1073741824))) rfl rfl ?_
    rcases bsplit (decide (x.1 ≤ 1073741824)) with h_3 | h_3
    · skip
      have h_3p := of_decide_eq_true h_3
      refine q_fieldAddr (gtt h_3) rfl fl61_1 ?_
      refine l_loadB trivial (gtt h_3) rfl pl2 (fk_1.now (Evo.refl M _)) rfl ?_
      refine q_geq (gtt h_3) rfl rfl ?_
      refine q_pick_bt (v := .bool (decide (0 ≤ x.2))) rfl rfl h_3 rfl ?_
      refine q_move (v := .bool (decide (0 ≤ x.2))) rfl rfl ?_
      rcases bsplit (decide (0 ≤ x.2)) with h_4 | h_4
      · skip
        have h_4p := of_decide_eq_true h_4
        refine q_fieldAddr (gtt h_4) rfl fl61_1 ?_
        refine l_loadB trivial (gtt h_4) rfl pl2 (fk_1.now (Evo.refl M _)) rfl ?_
        refine q_leq (gtt h_4) rfl rfl ?_
        refine q_pick_bt (v := .bool (decide (x.2 ≤ 1099511627776))) rfl rfl h_4 rfl ?_
        refine q_assign (v := .bool (decide (x.2 ≤ 1099511627776))) rfl rfl ?_
        refine done ?_
        refine thenN ?_
        refine wp_ret ?_
        refine ret1v (.bool (decide (x.2 ≤ 1099511627776))) rfl rfl ?_
        exact ⟨z1, by simp [rightP, *]⟩
      · skip
        have h_4p := of_decide_eq_false h_4
        refine q_no (gft h_4) ?_
        refine l_no (gft h_4) ?_
        refine q_no (gft h_4) ?_
        refine q_pick_bf (v := .bool false) rfl rfl h_4 rfl ?_
        refine q_assign (v := .bool false) rfl rfl ?_
        refine done ?_
        refine thenN ?_
        refine wp_ret ?_
        refine ret1v (.bool false) rfl rfl ?_
        exact ⟨z1, by simp [rightP, *]⟩
    · skip
      have h_3p := of_decide_eq_false h_3
      refine q_no (gft h_3) ?_
      refine l_no (gft h_3) ?_
      refine q_no (gft h_3) ?_
      refine q_pick_bf (v := .bool false) rfl rfl h_3 rfl ?_
      refine q_move (v := .bool false) rfl rfl ?_
      refine q_no rfl ?_
      refine l_no rfl ?_
      refine q_no rfl ?_
      refine q_pick_f (v := .bool false) rfl rfl rfl ?_
      refine q_assign (v := .bool false) rfl rfl ?_
      refine done ?_
      refine thenN ?_
      refine wp_ret ?_
      refine ret1v (.bool false) rfl rfl ?_
      exact ⟨z1, by simp [rightP, *]⟩
  · skip
    have h_2p := of_decide_eq_false h_2
    refine q_no (gft h_2) ?_
    refine l_no (gft h_2) ?_
    refine q_no (gft h_2) ?_
    refine q_pick_bf (v := .bool false) rfl rfl h_2 rfl ?_
    refine q_move (v := .bool false) rfl rfl ?_
    refine q_no rfl ?_
    refine l_no rfl ?_
    refine q_no rfl ?_
    refine q_pick_f (v := .bool false) rfl rfl rfl ?_
    refine q_move (v := .bool false) rfl rfl ?_
    refine q_no rfl ?_
    refine l_no rfl ?_
    refine q_no rfl ?_
    refine q_pick_f (v := .bool false) rfl rfl rfl ?_
    refine q_assign (v := .bool false) rfl rfl ?_
    refine done ?_
    refine thenN ?_
    refine wp_ret ?_
    refine ret1v (.bool false) rfl rfl ?_
    exact ⟨z1, by simp [rightP, *]⟩

theorem epochNot_c {M : Nat → Prop} (w : World) (hM : Old M w) (x : Int × Int) :
    Calls Tryd.prog 74 (List.toArray [.agg (encP x).toArray]) w (Ret No w fun v _ => v = .bool (!rightP x)) := by
  refine enter (n := 6) [(0, .agg (List.toArray [.int .i64 x.1, .int .i64 x.2]))] Tryd.func74 rfl (by kernel_rfl) ?_
  refine seq ?_
  refine region [false, true] ?_
  refine l_box (M := M) Keep.any hM rfl rfl (fun k_1 w1 s1 fk_1 nk_1 => ?_)
  have e0_1 : Evo M w w1 := s1.no
  have z1 : Evo No w w1 := s1.no
  refine q_assign (v := .bool false) rfl rfl ?_
  refine done ?_
  refine thenN ?_
  refine seq ?_
  refine region [false, false, true, true] ?_
  refine l_loadBN ([.int .i64 x.1, .int .i64 x.2]) trivial rfl rfl ag61 rfl (fk_1.now (Evo.refl M _)) rfl ?_
  refine l_call Keep.any rfl (epochRight_c (M := M) w1 (hM.on z1) x) en75 rfl rfl (fun v_2 w2 s2 q_3 => ?_)
  have e0_2 : Evo M w w2 := e0_1.trans s2.no
  have e1_2 : Evo M w1 w2 := s2.no
  have z2 : Evo No w w2 := z1.trans s2.no
  obtain rfl := q_3
  refine q_not rfl rfl ?_
  refine q_assign (v := .bool (!(rightP x))) rfl rfl ?_
  refine done ?_
  refine thenN ?_
  refine wp_ret ?_
  refine ret1v (.bool (!(rightP x))) rfl rfl ?_
  exact ⟨z2, by simp [*]⟩

theorem small_c {M : Nat → Prop} (w : World) (c : UInt8) :
    Calls Tryd.prog 95 (List.toArray [.int .u8 (c.toNat : Int)]) w (Ret No w fun v _ => v = .bool (decide (97 ≤ c.toNat) && decide (c.toNat ≤ 122))) := by
  refine enter (n := 9) [(0, .int .u8 (c.toNat : Int))] Tryd.func95 rfl (by kernel_rfl) ?_
  refine seq ?_
  refine region [true] ?_
  refine q_assign (v := .bool false) rfl rfl ?_
  refine done ?_
  refine thenN ?_
  refine seq ?_
  refine region [true, true, true, true, true, true, true] ?_
  refine q_move (v := .int .u8 (c.toNat : Int)) rfl rfl ?_
  refine q_geq rfl rfl rfl ?_
  refine q_move (v := .bool (decide (97 ≤ (c.toNat : Int)))) rfl rfl ?_
  rcases bsplit (decide (97 ≤ (c.toNat : Int))) with h_1 | h_1
  · skip
    have h_1p := of_decide_eq_true h_1
    refine q_move (v := .int .u8 (c.toNat : Int)) (gtt h_1) rfl ?_
    refine q_leq (gtt h_1) rfl rfl ?_
    refine q_pick_bt (v := .bool (decide ((c.toNat : Int) ≤ 122))) rfl rfl h_1 rfl ?_
    refine q_assign (v := .bool (decide ((c.toNat : Int) ≤ 122))) rfl rfl ?_
    refine done ?_
    refine thenN ?_
    refine wp_ret ?_
    refine ret1v (.bool (decide ((c.toNat : Int) ≤ 122))) rfl rfl ?_
    exact ⟨Evo.refl _ _, by congr 1; rw [Bool.eq_iff_iff]; simp; omega⟩
  · skip
    have h_1p := of_decide_eq_false h_1
    refine q_no (gft h_1) ?_
    refine q_no (gft h_1) ?_
    refine q_pick_bf (v := .bool false) rfl rfl h_1 rfl ?_
    refine q_assign (v := .bool false) rfl rfl ?_
    refine done ?_
    refine thenN ?_
    refine wp_ret ?_
    refine ret1v (.bool false) rfl rfl ?_
    exact ⟨Evo.refl _ _, by congr 1; rw [Bool.eq_iff_iff]; simp; omega⟩

theorem nameValid_c {M : Nat → Prop} (w : World) (s : ByteArray) :
    Calls Tryd.prog 76 (List.toArray [.string s]) w (Ret No w fun v _ => v = .bool (validName s)) := by
  refine enter (n := 45) [(0, .string s)] Tryd.func76 rfl (by kernel_rfl) ?_
  refine seq ?_
  refine region [true] ?_
  refine q_assign (v := .bool false) rfl rfl ?_
  refine done ?_
  refine thenN ?_
  refine seq ?_
  refine seq ?_
  refine region [true, true, true, true, true, true, true, true] ?_
  refine q_move (v := .string s) rfl rfl ?_
  refine q_lenS rfl rfl st9 ?_
  refine q_lss rfl rfl rfl ?_
  refine q_move (v := .bool (decide ((s.size : Int) < 1))) rfl rfl ?_
  rcases bsplit (decide ((s.size : Int) < 1)) with h_1 | h_1
  · skip
    have h_1p := of_decide_eq_true h_1
    refine q_no (gtf h_1) ?_
    refine q_no (gtf h_1) ?_
    refine q_no (gtf h_1) ?_
    refine q_pick_bt (v := .bool true) rfl rfl h_1 rfl ?_
    refine done ?_
    refine thenN ?_
    refine cond_t rfl ?_
    refine seq ?_
    refine region [true] ?_
    refine q_assign (v := .bool false) rfl rfl ?_
    refine done ?_
    refine thenN ?_
    refine wp_ret ?_
    refine thenR ?_
    refine ret1v (.bool false) rfl rfl ?_
    exact ⟨Evo.refl _ _, by congr 1; symm; unfold validName; simp; omega⟩
  · skip
    have h_1p := of_decide_eq_false h_1
    refine q_move (v := .string s) (gff h_1) rfl ?_
    refine q_lenS (gff h_1) rfl st9 ?_
    refine q_gtr (gff h_1) rfl rfl ?_
    refine q_pick_bf (v := .bool (decide (64 < (s.size : Int)))) rfl rfl h_1 rfl ?_
    refine done ?_
    refine thenN ?_
    refine cond_b rfl (fun h_2 => ?_) (fun h_2 => ?_)
    · skip
      have h_2p := of_decide_eq_true h_2
      refine seq ?_
      refine region [true] ?_
      refine q_assign (v := .bool false) rfl rfl ?_
      refine done ?_
      refine thenN ?_
      refine wp_ret ?_
      refine thenR ?_
      refine ret1v (.bool false) rfl rfl ?_
      exact ⟨Evo.refl _ _, by congr 1; symm; unfold validName; simp; omega⟩
    · skip
      have h_2p := of_decide_eq_false h_2
      refine wp_skip ?_
      refine thenN ?_
      refine seq ?_
      refine seq ?_
      refine region [true, true, true] ?_
      refine q_move (v := .string s) rfl rfl ?_
      refine q_lenS rfl rfl st9 ?_
      refine q_move (v := .int .i64 0) rfl rfl ?_
      refine done ?_
      refine thenN ?_
      refine blk ?_
      refine loopN [16, 17, 3, 18, 19, 20, 4, 21, 22, 23, 24, 25, 26, 27, 28, 29, 30, 31, 32, 33, 34, 35, 36, 37, 38, 39, 40, 41, 42, 43, 2, 44, 15] (fun k9 R9 wJ => ∃ (j : Nat), R9 = [(15, .int .i64 (j : Int))] ∧ (j ≤ s.size) ∧ ((s.data.toList.drop j).all okc = s.data.toList.all okc) ∧ (Evo No w wJ) ∧ k9 = s.size - j) ⟨_, _, ⟨0, rfl, Nat.zero_le _, by simp, Evo.refl _ _, rfl⟩, ⟨(by kernel_rfl), trivial⟩⟩ (fun k9 R9 u_3 w1 J_4 => ?_)
      obtain ⟨j, rfl, hj, hp, z9, rfl⟩ := J_4
      have e0_1 : Evo M w w1 := z9.no
      refine seq ?_
      refine region [true] ?_
      refine q_lss rfl rfl rfl ?_
      refine done ?_
      refine thenN ?_
      refine seq ?_
      refine cond_b rfl (fun h_5 => ?_) (fun h_5 => ?_)
      · skip
        have h_5p := of_decide_eq_true h_5
        refine wp_skip ?_
        refine thenN ?_
        refine seq ?_
        refine blk ?_
        refine seq ?_
        refine region [true, true] ?_
        refine q_move (v := .int .i64 (j : Int)) rfl rfl ?_
        refine q_assign (v := .int .i64 (j : Int)) rfl rfl ?_
        refine done ?_
        refine thenN ?_
        refine seq ?_
        refine region [true, true, true, true] ?_
        refine q_move (v := .string s) rfl rfl ?_
        refine q_move (v := .int .i64 (j : Int)) rfl rfl ?_
        obtain ⟨c_6, hc_6, gc_6⟩ := strGet s (i := (j : Int)) (by omega) (by omega)
        have bc_6 := c_6.toNat_lt
        refine q_indexS rfl rfl rfl st9 (by omega) hc_6 ?_
        refine q_assign (v := .int .u8 (c_6.toNat : Int)) rfl rfl ?_
        refine done ?_
        refine thenN ?_
        refine cutN [21, 22, 23, 24, 25, 26, 27, 28, 29, 30, 31, 32, 33, 34, 35, 36, 37, 38, 39, 40, 41, 42, 43] (fun R9 wJ => R9 = [(43, .bool (!(okc c_6)))] ∧ Evo No w1 wJ) ?_ ?_
        · skip
          refine region [true, false, true, true, true, true, true, true, true, true, true, true, true, true, true, true, true, true, true, true, true, true, true] ?_
          refine q_move (v := .int .u8 (c_6.toNat : Int)) rfl rfl ?_
          refine l_call Keep.any rfl (small_c (M := M) w1 c_6) en95 rfl rfl (fun v_9 w2 s2 q_10 => ?_)
          have e0_2 : Evo M w w2 := e0_1.trans s2.no
          have eQ7_2 : Evo No w1 w2 := s2.no
          have z2 : Evo No w w2 := z9.trans s2.no
          obtain rfl := q_10
          refine q_not rfl rfl ?_
          refine q_move (v := .bool (!(decide (97 ≤ c_6.toNat) && decide (c_6.toNat ≤ 122)))) rfl rfl ?_
          rcases bsplit (!(decide (97 ≤ c_6.toNat) && decide (c_6.toNat ≤ 122))) with h_11 | h_11
          · skip
            have h_11p := h_11
            have h_12 := unT h_11
            have h_12p := h_12
            simp only [Bool.and_eq_true, Bool.or_eq_true, Bool.and_eq_false_iff, Bool.or_eq_false_iff, Bool.not_eq_true', Bool.not_eq_false', decide_eq_true_eq, decide_eq_false_iff_not] at h_12p
            refine q_move (v := .int .u8 (c_6.toNat : Int)) (gtt h_11) rfl ?_
            refine q_lss (gtt h_11) rfl rfl ?_
            refine q_move (v := .bool (decide ((c_6.toNat : Int) < 48))) (gtt h_11) rfl ?_
            rcases bsplit (decide ((c_6.toNat : Int) < 48)) with h_13 | h_13
            · skip
              have h_13p := of_decide_eq_true h_13
              refine q_no (gtf h_13) ?_
              refine q_no (gtf h_13) ?_
              refine q_pick_bt (v := .bool true) (gtt h_11) rfl h_13 rfl ?_
              refine q_pick_bt (v := .bool true) rfl rfl h_11 rfl ?_
              refine q_move (v := .bool true) rfl rfl ?_
              refine q_move (v := .int .u8 (c_6.toNat : Int)) rfl rfl ?_
              refine q_neq rfl rfl rfl ?_
              refine q_pick_t (v := .bool (!(decide ((c_6.toNat : Int) = 46)))) rfl rfl rfl ?_
              refine q_move (v := .bool (!(decide ((c_6.toNat : Int) = 46)))) rfl rfl ?_
              rcases bsplit (!(decide ((c_6.toNat : Int) = 46))) with h_14 | h_14
              · skip
                have h_15 := unT h_14
                have h_15p := of_decide_eq_false h_15
                refine q_move (v := .int .u8 (c_6.toNat : Int)) (gtt h_14) rfl ?_
                refine q_neq (gtt h_14) rfl rfl ?_
                refine q_pick_bt (v := .bool (!(decide ((c_6.toNat : Int) = 45)))) rfl rfl h_14 rfl ?_
                refine q_move (v := .bool (!(decide ((c_6.toNat : Int) = 45)))) rfl rfl ?_
                rcases bsplit (!(decide ((c_6.toNat : Int) = 45))) with h_16 | h_16
                · skip
                  have h_17 := unT h_16
                  have h_17p := of_decide_eq_false h_17
                  refine q_move (v := .int .u8 (c_6.toNat : Int)) (gtt h_16) rfl ?_
                  refine q_neq (gtt h_16) rfl rfl ?_
                  refine q_pick_bt (v := .bool (!(decide ((c_6.toNat : Int) = 95)))) rfl rfl h_16 rfl ?_
                  refine done ?_
                  refine thenN ?_
                  exact ⟨_, ⟨rfl, eQ7_2⟩, Env.near_at 23 (by kernel_rfl) (by kernel_rfl) ⟨(Eq.trans (b := .bool (!(decide ((c_6.toNat : Int) = 95)))) (by kernel_rfl) (congrArg _ (by unfold okc; rw [Bool.eq_iff_iff]; simp; omega))), trivial⟩⟩
                · skip
                  have h_18 := unF h_16
                  have h_18p := of_decide_eq_true h_18
                  refine q_no (gft h_16) ?_
                  refine q_no (gft h_16) ?_
                  refine q_pick_bf (v := .bool false) rfl rfl h_16 rfl ?_
                  refine done ?_
                  refine thenN ?_
                  exact ⟨_, ⟨rfl, eQ7_2⟩, Env.near_at 23 (by kernel_rfl) (by kernel_rfl) ⟨(Eq.trans (b := .bool false) (by kernel_rfl) (congrArg _ (by unfold okc; rw [Bool.eq_iff_iff]; simp; omega))), trivial⟩⟩
              · skip
                have h_19 := unF h_14
                have h_19p := of_decide_eq_true h_19
                refine q_no (gft h_14) ?_
                refine q_no (gft h_14) ?_
                refine q_pick_bf (v := .bool false) rfl rfl h_14 rfl ?_
                refine q_move (v := .bool false) rfl rfl ?_
                refine q_no rfl ?_
                refine q_no rfl ?_
                refine q_pick_f (v := .bool false) rfl rfl rfl ?_
                refine done ?_
                refine thenN ?_
                exact ⟨_, ⟨rfl, eQ7_2⟩, Env.near_at 23 (by kernel_rfl) (by kernel_rfl) ⟨(Eq.trans (b := .bool false) (by kernel_rfl) (congrArg _ (by unfold okc; rw [Bool.eq_iff_iff]; simp; omega))), trivial⟩⟩
            · skip
              have h_13p := of_decide_eq_false h_13
              refine q_move (v := .int .u8 (c_6.toNat : Int)) (gff h_13) rfl ?_
              refine q_gtr (gff h_13) rfl rfl ?_
              refine q_pick_bf (v := .bool (decide (57 < (c_6.toNat : Int)))) (gtt h_11) rfl h_13 rfl ?_
              refine q_pick_bt (v := .bool (decide (57 < (c_6.toNat : Int)))) rfl rfl h_11 rfl ?_
              refine q_move (v := .bool (decide (57 < (c_6.toNat : Int)))) rfl rfl ?_
              rcases bsplit (decide (57 < (c_6.toNat : Int))) with h_20 | h_20
              · skip
                have h_20p := of_decide_eq_true h_20
                refine q_move (v := .int .u8 (c_6.toNat : Int)) (gtt h_20) rfl ?_
                refine q_neq (gtt h_20) rfl rfl ?_
                refine q_pick_bt (v := .bool (!(decide ((c_6.toNat : Int) = 46)))) rfl rfl h_20 rfl ?_
                refine q_move (v := .bool (!(decide ((c_6.toNat : Int) = 46)))) rfl rfl ?_
                rcases bsplit (!(decide ((c_6.toNat : Int) = 46))) with h_21 | h_21
                · skip
                  have h_22 := unT h_21
                  have h_22p := of_decide_eq_false h_22
                  refine q_move (v := .int .u8 (c_6.toNat : Int)) (gtt h_21) rfl ?_
                  refine q_neq (gtt h_21) rfl rfl ?_
                  refine q_pick_bt (v := .bool (!(decide ((c_6.toNat : Int) = 45)))) rfl rfl h_21 rfl ?_
                  refine q_move (v := .bool (!(decide ((c_6.toNat : Int) = 45)))) rfl rfl ?_
                  rcases bsplit (!(decide ((c_6.toNat : Int) = 45))) with h_23 | h_23
                  · skip
                    have h_24 := unT h_23
                    have h_24p := of_decide_eq_false h_24
                    refine q_move (v := .int .u8 (c_6.toNat : Int)) (gtt h_23) rfl ?_
                    refine q_neq (gtt h_23) rfl rfl ?_
                    refine q_pick_bt (v := .bool (!(decide ((c_6.toNat : Int) = 95)))) rfl rfl h_23 rfl ?_
                    refine done ?_
                    refine thenN ?_
                    exact ⟨_, ⟨rfl, eQ7_2⟩, Env.near_at 23 (by kernel_rfl) (by kernel_rfl) ⟨(Eq.trans (b := .bool (!(decide ((c_6.toNat : Int) = 95)))) (by kernel_rfl) (congrArg _ (by unfold okc; rw [Bool.eq_iff_iff]; simp; omega))), trivial⟩⟩
                  · skip
                    have h_25 := unF h_23
                    have h_25p := of_decide_eq_true h_25
                    refine q_no (gft h_23) ?_
                    refine q_no (gft h_23) ?_
                    refine q_pick_bf (v := .bool false) rfl rfl h_23 rfl ?_
                    refine done ?_
                    refine thenN ?_
                    exact ⟨_, ⟨rfl, eQ7_2⟩, Env.near_at 23 (by kernel_rfl) (by kernel_rfl) ⟨(Eq.trans (b := .bool false) (by kernel_rfl) (congrArg _ (by unfold okc; rw [Bool.eq_iff_iff]; simp; omega))), trivial⟩⟩
                · skip
                  have h_26 := unF h_21
                  have h_26p := of_decide_eq_true h_26
                  refine q_no (gft h_21) ?_
                  refine q_no (gft h_21) ?_
                  refine q_pick_bf (v := .bool false) rfl rfl h_21 rfl ?_
                  refine q_move (v := .bool false) rfl rfl ?_
                  refine q_no rfl ?_
                  refine q_no rfl ?_
                  refine q_pick_f (v := .bool false) rfl rfl rfl ?_
                  refine done ?_
                  refine thenN ?_
                  exact ⟨_, ⟨rfl, eQ7_2⟩, Env.near_at 23 (by kernel_rfl) (by kernel_rfl) ⟨(Eq.trans (b := .bool false) (by kernel_rfl) (congrArg _ (by unfold okc; rw [Bool.eq_iff_iff]; simp; omega))), trivial⟩⟩
              · skip
                have h_20p := of_decide_eq_false h_20
                refine q_no (gft h_20) ?_
                refine q_no (gft h_20) ?_
                refine q_pick_bf (v := .bool false) rfl rfl h_20 rfl ?_
                refine q_move (v := .bool false) rfl rfl ?_
                refine q_no rfl ?_
                refine q_no rfl ?_
                refine q_pick_f (v := .bool false) rfl rfl rfl ?_
                refine q_move (v := .bool false) rfl rfl ?_
                refine q_no rfl ?_
                refine q_no rfl ?_
                refine q_pick_f (v := .bool false) rfl rfl rfl ?_
                refine done ?_
                refine thenN ?_
                exact ⟨_, ⟨rfl, eQ7_2⟩, Env.near_at 23 (by kernel_rfl) (by kernel_rfl) ⟨(Eq.trans (b := .bool false) (by kernel_rfl) (congrArg _ (by unfold okc; rw [Bool.eq_iff_iff]; simp; omega))), trivial⟩⟩
          · skip
            have h_11p := h_11
            have h_27 := unF h_11
            have h_27p := h_27
            simp only [Bool.and_eq_true, Bool.or_eq_true, Bool.and_eq_false_iff, Bool.or_eq_false_iff, Bool.not_eq_true', Bool.not_eq_false', decide_eq_true_eq, decide_eq_false_iff_not] at h_27p
            refine q_no (gft h_11) ?_
            refine q_no (gft h_11) ?_
            refine q_no (gft h_11) ?_
            refine q_no rfl ?_
            refine q_no rfl ?_
            refine q_no (gft h_11) ?_
            refine q_pick_bf (v := .bool false) rfl rfl h_11 rfl ?_
            refine q_move (v := .bool false) rfl rfl ?_
            refine q_no rfl ?_
            refine q_no rfl ?_
            refine q_pick_f (v := .bool false) rfl rfl rfl ?_
            refine q_move (v := .bool false) rfl rfl ?_
            refine q_no rfl ?_
            refine q_no rfl ?_
            refine q_pick_f (v := .bool false) rfl rfl rfl ?_
            refine q_move (v := .bool false) rfl rfl ?_
            refine q_no rfl ?_
            refine q_no rfl ?_
            refine q_pick_f (v := .bool false) rfl rfl rfl ?_
            refine done ?_
            refine thenN ?_
            exact ⟨_, ⟨rfl, eQ7_2⟩, Env.near_at 23 (by kernel_rfl) (by kernel_rfl) ⟨(Eq.trans (b := .bool false) (by kernel_rfl) (congrArg _ (by unfold okc; rw [Bool.eq_iff_iff]; simp; omega))), trivial⟩⟩
        · rintro _ u_7 w2 ⟨rfl, s2⟩
          have e0_2 : Evo M w w2 := e0_1.trans s2.no
          have z2 : Evo No w w2 := z9.trans s2.no
          refine cond_b rfl (fun h_28 => ?_) (fun h_28 => ?_)
          · skip
            have h_29 := unT h_28
            refine seq ?_
            refine region [true] ?_
            refine q_assign (v := .bool false) rfl rfl ?_
            refine done ?_
            refine thenN ?_
            refine wp_ret ?_
            refine blkR ?_
            refine thenR ?_
            refine thenR ?_
            refine blkR ?_
            refine thenR ?_
            refine ret1v (.bool false) rfl rfl ?_
            have hok : okc c_6 = false := by simpa using h_29
            exact ⟨z2, by unfold validName; rw [← hp, drop_cons (i := j) gc_6, List.all_cons, hok]; simp⟩
          · skip
            have h_30 := unF h_28
            refine wp_skip ?_
            refine blkN ?_
            refine thenN ?_
            refine region [true, true] ?_
            refine q_add rfl rfl rfl (wi64 (by omega) (by omega)) ?_
            refine q_move (v := .int .i64 ((j : Int) + 1)) rfl rfl ?_
            refine done ?_
            refine thenN ?_
            have hok : okc c_6 = true := by simpa using h_30
            refine ⟨_, _, ?_, ⟨j + 1, rfl, by omega, by rw [← hp, drop_cons (i := j) gc_6, List.all_cons, hok, Bool.true_and], z2, rfl⟩, Env.near_at 67 (by kernel_rfl) (by kernel_rfl) ⟨(Eq.trans (b := Go.Value.int .i64 ((j : Int) + 1)) (by kernel_rfl) (nextI j)), trivial⟩⟩
            omega
      · skip
        have h_5p := of_decide_eq_false h_5
        refine wp_exit ?_
        refine thenX ?_
        refine thenX ?_
        refine blkX ?_
        refine thenN ?_
        refine seq ?_
        refine region [true] ?_
        refine q_assign (v := .bool true) rfl rfl ?_
        refine done ?_
        refine thenN ?_
        refine wp_ret ?_
        refine ret1v (.bool true) rfl rfl ?_
        exact ⟨z9, by rw [List.drop_eq_nil_of_le (by simp; omega)] at hp; unfold validName; rw [← hp]; simp; omega⟩

theorem idxPairs_c {M : Nat → Prop} (w : World) (hM : Old M w) (xs : List (Int × Int)) (a : Option Addr) (n c : Nat) (h : At M w (Sl 2 (xs.map encP) a n c)) (hn : n ≤ 2147483648) (f : Go.FuncId) (cap : List Value) (pr : (Int × Int) → Bool) (hE : entB Tryd.prog f = true)
    (hp : ∀ x, ∀ w1, Evo No w w1 → Calls Tryd.prog f (.agg (encP x).toArray :: cap).toArray w1 (Ret No w1 fun v _ => v = .bool (pr x))) :
    Calls Tryd.prog 94 (List.toArray [.slice a n c, .func (.func f) #[] cap.toArray]) w (Ret No w fun v _ => ∃ r : Int, v = .int .i64 r ∧ decide (0 ≤ r) = xs.any pr) := by
  refine enter (n := 19) [(0, .slice a n c), (1, .func (.func f) #[] (List.toArray cap))] Tryd.func94 rfl (by kernel_rfl) ?_
  refine seq ?_
  refine region [true] ?_
  refine q_assign (v := .int .i64 0) rfl rfl ?_
  refine done ?_
  refine thenN ?_
  refine seq ?_
  refine seq ?_
  refine region [true, true, true] ?_
  refine q_move (v := .slice a n c) rfl rfl ?_
  refine q_len rfl rfl el28 ?_
  refine q_move (v := .int .i64 0) rfl rfl ?_
  refine done ?_
  refine thenN ?_
  refine blk ?_
  have hl := h.here.len
  rw [List.length_map] at hl
  refine loopN [9, 10, 5, 11, 12, 13, 14, 15, 16, 17, 4, 18, 8] (fun k9 R9 wJ => ∃ (j : Nat), R9 = [(8, .int .i64 (j : Int))] ∧ (j ≤ n) ∧ ((xs.drop j).any pr = xs.any pr) ∧ (Evo No w wJ) ∧ k9 = n - j) ⟨_, _, ⟨0, rfl, Nat.zero_le _, by simp, Evo.refl _ _, rfl⟩, ⟨(by kernel_rfl), trivial⟩⟩ (fun k9 R9 u_1 w1 J_2 => ?_)
  obtain ⟨j, rfl, hj, hq, z9, rfl⟩ := J_2
  have e0_1 : Evo M w w1 := z9.no
  refine seq ?_
  refine region [true] ?_
  refine q_lss rfl rfl rfl ?_
  refine done ?_
  refine thenN ?_
  refine seq ?_
  refine cond_b rfl (fun h_3 => ?_) (fun h_3 => ?_)
  · skip
    have h_3p := of_decide_eq_true h_3
    refine wp_skip ?_
    refine thenN ?_
    refine seq ?_
    refine blk ?_
    refine seq ?_
    refine region [true, true] ?_
    refine q_move (v := .int .i64 (j : Int)) rfl rfl ?_
    refine q_assign (v := .int .i64 (j : Int)) rfl rfl ?_
    refine done ?_
    refine thenN ?_
    refine seq ?_
    refine region [true, true, true, true, false, false] ?_
    refine q_move (v := .func (.func f) #[] (List.toArray cap)) rfl rfl ?_
    refine q_move (v := .slice a n c) rfl rfl ?_
    refine q_move (v := .int .i64 (j : Int)) rfl rfl ?_
    obtain ⟨x_4, hx_4⟩ := Sl.get (xs := xs) h.here (i := (j : Int)) (by omega) (by omega)
    have Ax_4 := Sl.areaAt h (Sl.map_get hx_4)
    refine q_indexS' rfl rfl rfl el28 (h.here.there (by omega)).1 (by omega) (by omega) ?_
    refine l_loadN trivial rfl rfl ag61 rfl (Ax_4.now e0_1) ?_
    refine l_callV (al := .agg (List.toArray [.int .i64 x_4.1, .int .i64 x_4.2]) :: cap) Keep.any rfl (hp x_4 w1 z9) hE rfl rfl (fun v_5 w2 s2 q_6 => ?_)
    have e0_2 : Evo M w w2 := e0_1.trans s2.no
    have z2 : Evo No w w2 := z9.trans s2.no
    obtain rfl := q_6
    refine done ?_
    refine thenN ?_
    refine cond_b rfl (fun h_7 => ?_) (fun h_7 => ?_)
    · skip
      refine seq ?_
      refine region [true, true] ?_
      refine q_move (v := .int .i64 (j : Int)) rfl rfl ?_
      refine q_assign (v := .int .i64 (j : Int)) rfl rfl ?_
      refine done ?_
      refine thenN ?_
      refine wp_ret ?_
      refine blkR ?_
      refine thenR ?_
      refine thenR ?_
      refine blkR ?_
      refine thenR ?_
      refine ret1v (.int .i64 (j : Int)) rfl rfl ?_
      exact ⟨z2, _, rfl, by rw [← hq, drop_cons (i := j) hx_4, List.any_cons, h_7]; simp⟩
    · skip
      refine wp_skip ?_
      refine blkN ?_
      refine thenN ?_
      refine region [true, true] ?_
      refine q_add rfl rfl rfl (wi64 (by omega) (by omega)) ?_
      refine q_move (v := .int .i64 ((j : Int) + 1)) rfl rfl ?_
      refine done ?_
      refine thenN ?_
      refine ⟨_, _, ?_, ⟨j + 1, rfl, by omega, by rw [← hq, drop_cons (i := j) hx_4, List.any_cons, h_7, Bool.false_or], z2, rfl⟩, Env.near_at 25 (by kernel_rfl) (by kernel_rfl) ⟨(Eq.trans (b := Go.Value.int .i64 ((j : Int) + 1)) (by kernel_rfl) (nextI j)), trivial⟩⟩
      omega
  · skip
    have h_3p := of_decide_eq_false h_3
    refine wp_exit ?_
    refine thenX ?_
    refine thenX ?_
    refine blkX ?_
    refine thenN ?_
    refine seq ?_
    refine region [true] ?_
    refine q_assign (v := .int .i64 (-1)) rfl rfl ?_
    refine done ?_
    refine thenN ?_
    refine wp_ret ?_
    refine ret1v (.int .i64 (-1)) rfl rfl ?_
    exact ⟨z9, _, rfl, by rw [← hq, List.drop_eq_nil_of_le (by omega)]; rfl⟩

theorem hasPairs_c {M : Nat → Prop} (w : World) (hM : Old M w) (xs : List (Int × Int)) (a : Option Addr) (n c : Nat) (h : At M w (Sl 2 (xs.map encP) a n c)) (hn : n ≤ 2147483648) (f : Go.FuncId) (cap : List Value) (pr : (Int × Int) → Bool) (hE : entB Tryd.prog f = true)
    (hp : ∀ x, ∀ w1, Evo No w w1 → Calls Tryd.prog f (.agg (encP x).toArray :: cap).toArray w1 (Ret No w1 fun v _ => v = .bool (pr x))) :
    Calls Tryd.prog 73 (List.toArray [.slice a n c, .func (.func f) #[] cap.toArray]) w (Ret No w fun v _ => v = .bool (xs.any pr)) := by
  refine enter (n := 9) [(0, .slice a n c), (1, .func (.func f) #[] (List.toArray cap))] Tryd.func73 rfl (by kernel_rfl) ?_
  refine seq ?_
  refine region [true] ?_
  refine q_assign (v := .bool false) rfl rfl ?_
  refine done ?_
  refine thenN ?_
  refine seq ?_
  refine region [true, true, false, true, true] ?_
  refine q_move (v := .slice a n c) rfl rfl ?_
  refine q_move (v := .func (.func f) #[] (List.toArray cap)) rfl rfl ?_
  refine l_call Keep.any rfl (idxPairs_c (M := M) w hM xs a n c (h.on (Evo.refl M _)) hn f cap pr hE (fun x w1 e9 => hp x w1 ((Evo.refl No _).trans e9))) en94 rfl rfl (fun v_1 w1 s1 q_2 => ?_)
  have e0_1 : Evo M w w1 := s1.no
  have z1 : Evo No w w1 := s1.no
  obtain ⟨r, rfl, hr⟩ := q_2
  refine q_geq rfl rfl rfl ?_
  refine q_assign (v := .bool (decide (0 ≤ r))) rfl rfl ?_
  refine done ?_
  refine thenN ?_
  refine wp_ret ?_
  refine ret1v (.bool (decide (0 ≤ r))) rfl rfl ?_
  exact ⟨z1, by rw [← hr]⟩

theorem idxObjs_c {M : Nat → Prop} (w : World) (hM : Old M w) (xs : List Obj) (a : Option Addr) (n c : Nat) (h : At M w (Sl 3 (xs.map encO) a n c)) (hn : n ≤ 2147483648) (f : Go.FuncId) (cap : List Value) (pr : Obj → Bool) (hE : entB Tryd.prog f = true)
    (hp : ∀ x, ∀ w1, Evo No w w1 → Calls Tryd.prog f (.agg (encO x).toArray :: cap).toArray w1 (Ret No w1 fun v _ => v = .bool (pr x))) :
    Calls Tryd.prog 96 (List.toArray [.slice a n c, .func (.func f) #[] cap.toArray]) w (Ret No w fun v _ => ∃ r : Int, v = .int .i64 r ∧ decide (0 ≤ r) = xs.any pr) := by
  refine enter (n := 19) [(0, .slice a n c), (1, .func (.func f) #[] (List.toArray cap))] Tryd.func96 rfl (by kernel_rfl) ?_
  refine seq ?_
  refine region [true] ?_
  refine q_assign (v := .int .i64 0) rfl rfl ?_
  refine done ?_
  refine thenN ?_
  refine seq ?_
  refine seq ?_
  refine region [true, true, true] ?_
  refine q_move (v := .slice a n c) rfl rfl ?_
  refine q_len rfl rfl el29 ?_
  refine q_move (v := .int .i64 0) rfl rfl ?_
  refine done ?_
  refine thenN ?_
  refine blk ?_
  have hl := h.here.len
  rw [List.length_map] at hl
  refine loopN [9, 10, 5, 11, 12, 13, 14, 15, 16, 17, 4, 18, 8] (fun k9 R9 wJ => ∃ (j : Nat), R9 = [(8, .int .i64 (j : Int))] ∧ (j ≤ n) ∧ ((xs.drop j).any pr = xs.any pr) ∧ (Evo No w wJ) ∧ k9 = n - j) ⟨_, _, ⟨0, rfl, Nat.zero_le _, by simp, Evo.refl _ _, rfl⟩, ⟨(by kernel_rfl), trivial⟩⟩ (fun k9 R9 u_1 w1 J_2 => ?_)
  obtain ⟨j, rfl, hj, hq, z9, rfl⟩ := J_2
  have e0_1 : Evo M w w1 := z9.no
  refine seq ?_
  refine region [true] ?_
  refine q_lss rfl rfl rfl ?_
  refine done ?_
  refine thenN ?_
  refine seq ?_
  refine cond_b rfl (fun h_3 => ?_) (fun h_3 => ?_)
  · skip
    have h_3p := of_decide_eq_true h_3
    refine wp_skip ?_
    refine thenN ?_
    refine seq ?_
    refine blk ?_
    refine seq ?_
    refine region [true, true] ?_
    refine q_move (v := .int .i64 (j : Int)) rfl rfl ?_
    refine q_assign (v := .int .i64 (j : Int)) rfl rfl ?_
    refine done ?_
    refine thenN ?_
    refine seq ?_
    refine region [true, true, true, true, false, false] ?_
    refine q_move (v := .func (.func f) #[] (List.toArray cap)) rfl rfl ?_
    refine q_move (v := .slice a n c) rfl rfl ?_
    refine q_move (v := .int .i64 (j : Int)) rfl rfl ?_
    obtain ⟨x_4, hx_4⟩ := Sl.get (xs := xs) h.here (i := (j : Int)) (by omega) (by omega)
    have Ax_4 := Sl.areaAt h (Sl.map_get hx_4)
    refine q_indexS' rfl rfl rfl el29 (h.here.there (by omega)).1 (by omega) (by omega) ?_
    refine l_loadN trivial rfl rfl ag46 rfl (Ax_4.now e0_1) ?_
    refine l_callV (al := .agg (List.toArray [.string x_4.name, .int .i64 x_4.len, .int .u32 x_4.sum]) :: cap) Keep.any rfl (hp x_4 w1 z9) hE rfl rfl (fun v_5 w2 s2 q_6 => ?_)
    have e0_2 : Evo M w w2 := e0_1.trans s2.no
    have z2 : Evo No w w2 := z9.trans s2.no
    obtain rfl := q_6
    refine done ?_
    refine thenN ?_
    refine cond_b rfl (fun h_7 => ?_) (fun h_7 => ?_)
    · skip
      refine seq ?_
      refine region [true, true] ?_
      refine q_move (v := .int .i64 (j : Int)) rfl rfl ?_
      refine q_assign (v := .int .i64 (j : Int)) rfl rfl ?_
      refine done ?_
      refine thenN ?_
      refine wp_ret ?_
      refine blkR ?_
      refine thenR ?_
      refine thenR ?_
      refine blkR ?_
      refine thenR ?_
      refine ret1v (.int .i64 (j : Int)) rfl rfl ?_
      exact ⟨z2, _, rfl, by rw [← hq, drop_cons (i := j) hx_4, List.any_cons, h_7]; simp⟩
    · skip
      refine wp_skip ?_
      refine blkN ?_
      refine thenN ?_
      refine region [true, true] ?_
      refine q_add rfl rfl rfl (wi64 (by omega) (by omega)) ?_
      refine q_move (v := .int .i64 ((j : Int) + 1)) rfl rfl ?_
      refine done ?_
      refine thenN ?_
      refine ⟨_, _, ?_, ⟨j + 1, rfl, by omega, by rw [← hq, drop_cons (i := j) hx_4, List.any_cons, h_7, Bool.false_or], z2, rfl⟩, Env.near_at 25 (by kernel_rfl) (by kernel_rfl) ⟨(Eq.trans (b := Go.Value.int .i64 ((j : Int) + 1)) (by kernel_rfl) (nextI j)), trivial⟩⟩
      omega
  · skip
    have h_3p := of_decide_eq_false h_3
    refine wp_exit ?_
    refine thenX ?_
    refine thenX ?_
    refine blkX ?_
    refine thenN ?_
    refine seq ?_
    refine region [true] ?_
    refine q_assign (v := .int .i64 (-1)) rfl rfl ?_
    refine done ?_
    refine thenN ?_
    refine wp_ret ?_
    refine ret1v (.int .i64 (-1)) rfl rfl ?_
    exact ⟨z9, _, rfl, by rw [← hq, List.drop_eq_nil_of_le (by omega)]; rfl⟩

theorem hasObjs_c {M : Nat → Prop} (w : World) (hM : Old M w) (xs : List Obj) (a : Option Addr) (n c : Nat) (h : At M w (Sl 3 (xs.map encO) a n c)) (hn : n ≤ 2147483648) (f : Go.FuncId) (cap : List Value) (pr : Obj → Bool) (hE : entB Tryd.prog f = true)
    (hp : ∀ x, ∀ w1, Evo No w w1 → Calls Tryd.prog f (.agg (encO x).toArray :: cap).toArray w1 (Ret No w1 fun v _ => v = .bool (pr x))) :
    Calls Tryd.prog 77 (List.toArray [.slice a n c, .func (.func f) #[] cap.toArray]) w (Ret No w fun v _ => v = .bool (xs.any pr)) := by
  refine enter (n := 9) [(0, .slice a n c), (1, .func (.func f) #[] (List.toArray cap))] Tryd.func77 rfl (by kernel_rfl) ?_
  refine seq ?_
  refine region [true] ?_
  refine q_assign (v := .bool false) rfl rfl ?_
  refine done ?_
  refine thenN ?_
  refine seq ?_
  refine region [true, true, false, true, true] ?_
  refine q_move (v := .slice a n c) rfl rfl ?_
  refine q_move (v := .func (.func f) #[] (List.toArray cap)) rfl rfl ?_
  refine l_call Keep.any rfl (idxObjs_c (M := M) w hM xs a n c (h.on (Evo.refl M _)) hn f cap pr hE (fun x w1 e9 => hp x w1 ((Evo.refl No _).trans e9))) en96 rfl rfl (fun v_1 w1 s1 q_2 => ?_)
  have e0_1 : Evo M w w1 := s1.no
  have z1 : Evo No w w1 := s1.no
  obtain ⟨r, rfl, hr⟩ := q_2
  refine q_geq rfl rfl rfl ?_
  refine q_assign (v := .bool (decide (0 ≤ r))) rfl rfl ?_
  refine done ?_
  refine thenN ?_
  refine wp_ret ?_
  refine ret1v (.bool (decide (0 ≤ r))) rfl rfl ?_
  exact ⟨z1, by rw [← hr]⟩
end Go.Proofs.YtnkafkikjcgogaaDoor
