import Derived.Test.YtnkafkikjcgogaaDoorSxg
import Derived.Test.YtnkafkikjcgogaaDoorF6
import Derived.Test.YtnkafkikjcgogaaDoorProg
import Derived.Test.YtnkafkikjcgogaaDoorRmod
import Derived.Test.YtnkafkikjcgogaaDoorVw1
set_option linter.unusedVariables false
set_option linter.unusedSimpArgs false
set_option maxRecDepth 4000
set_option maxHeartbeats 2000000
namespace Go.Proofs.YtnkafkikjcgogaaDoor
open Go.Sx F6

theorem refRight_c (w : World) (n : Int) :
    Calls Tryd.prog 66 (List.toArray [.int .i64 n]) w (Ret No w fun v _ => v = .bool (right n)) := by
  refine enter (n := 9) [(0, .int .i64 n)] Tryd.func66 rfl (by kernel_rfl) ?_
  refine seq ?_
  refine region [true] ?_
  refine q_assign (v := .bool false) rfl rfl ?_
  refine done ?_
  refine thenN ?_
  refine seq ?_
  refine region [true, true, true, true, true, true, true] ?_
  refine q_move (v := .int .i64 n) rfl rfl ?_
  refine q_geq rfl rfl rfl ?_
  refine q_move (v := .bool (decide (0 ≤ n))) rfl rfl ?_
  rcases bsplit (decide (0 ≤ n)) with h_1 | h_1
  · skip
    have h_1p := of_decide_eq_true h_1
    refine q_move (v := .int .i64 n) (gtt h_1) rfl ?_
    refine q_leq (gtt h_1) rfl rfl ?_
    refine q_pick_bt (v := .bool (decide (n ≤ 1099511627776))) rfl rfl h_1 rfl ?_
    refine q_assign (v := .bool (decide (n ≤ 1099511627776))) rfl rfl ?_
    refine done ?_
    refine thenN ?_
    refine wp_ret ?_
    refine ret1v (.bool (decide (n ≤ 1099511627776))) rfl rfl ?_
    exact ⟨Evo.refl _ _, by simp [right, *]⟩
  · skip
    have h_1p := of_decide_eq_false h_1
    refine q_no (gft h_1) ?_
    refine q_no (gft h_1) ?_
    refine q_pick_bf (v := .bool false) rfl rfl h_1 rfl ?_
    refine q_assign (v := .bool false) rfl rfl ?_
    refine done ?_
    refine thenN ?_
    refine wp_ret ?_
    refine ret1v (.bool false) rfl rfl ?_
    exact ⟨Evo.refl _ _, by simp [right, *]⟩

theorem refTime_c (w : World) (n : Int) :
    Calls Tryd.prog 69 (List.toArray [.int .i64 n]) w (Ret No w fun v _ => v = .bool (decide (-1099511627776 ≤ n) && decide (n ≤ 1099511627776))) := by
  refine enter (n := 9) [(0, .int .i64 n)] Tryd.func69 rfl (by kernel_rfl) ?_
  refine seq ?_
  refine region [true] ?_
  refine q_assign (v := .bool false) rfl rfl ?_
  refine done ?_
  refine thenN ?_
  refine seq ?_
  refine region [true, true, true, true, true, true, true] ?_
  refine q_move (v := .int .i64 n) rfl rfl ?_
  refine q_geq rfl rfl rfl ?_
  refine q_move (v := .bool (decide (-1099511627776 ≤ n))) rfl rfl ?_
  rcases bsplit (decide (-1099511627776 ≤ n)) with h_1 | h_1
  · skip
    have h_1p := of_decide_eq_true h_1
    refine q_move (v := .int .i64 n) (gtt h_1) rfl ?_
    refine q_leq (gtt h_1) rfl rfl ?_
    refine q_pick_bt (v := .bool (decide (n ≤ 1099511627776))) rfl rfl h_1 rfl ?_
    refine q_assign (v := .bool (decide (n ≤ 1099511627776))) rfl rfl ?_
    refine done ?_
    refine thenN ?_
    refine wp_ret ?_
    refine ret1v (.bool (decide (n ≤ 1099511627776))) rfl rfl ?_
    exact ⟨Evo.refl _ _, by simp [*]⟩
  · skip
    have h_1p := of_decide_eq_false h_1
    refine q_no (gft h_1) ?_
    refine q_no (gft h_1) ?_
    refine q_pick_bf (v := .bool false) rfl rfl h_1 rfl ?_
    refine q_assign (v := .bool false) rfl rfl ?_
    refine done ?_
    refine thenN ?_
    refine wp_ret ?_
    refine ret1v (.bool false) rfl rfl ?_
    exact ⟨Evo.refl _ _, by simp [*]⟩

theorem refEpoch_c (w : World) (n : Int) :
    Calls Tryd.prog 93 (List.toArray [.int .i64 n]) w (Ret No w fun v _ => v = .bool (decide (0 ≤ n) && decide (n ≤ 1073741824))) := by
  refine enter (n := 9) [(0, .int .i64 n)] Tryd.func93 rfl (by kernel_rfl) ?_
  refine seq ?_
  refine region [true] ?_
  refine q_assign (v := .bool false) rfl rfl ?_
  refine done ?_
  refine thenN ?_
  refine seq ?_
  refine region [true, true, true, true, true, true, true] ?_
  refine q_move (v := .int .i64 n) rfl rfl ?_
  refine q_geq rfl rfl rfl ?_
  refine q_move (v := .bool (decide (0 ≤ n))) rfl rfl ?_
  rcases bsplit (decide (0 ≤ n)) with h_1 | h_1
  · skip
    have h_1p := of_decide_eq_true h_1
    refine q_move (v := .int .i64 n) (gtt h_1) rfl ?_
    refine q_leq (gtt h_1) rfl rfl ?_
    refine q_pick_bt (v := .bool (decide (n ≤ 1073741824))) rfl rfl h_1 rfl ?_
    refine q_assign (v := .bool (decide (n ≤ 1073741824))) rfl rfl ?_
    refine done ?_
    refine thenN ?_
    refine wp_ret ?_
    refine ret1v (.bool (decide (n ≤ 1073741824))) rfl rfl ?_
    exact ⟨Evo.refl _ _, by simp [*]⟩
  · skip
    have h_1p := of_decide_eq_false h_1
    refine q_no (gft h_1) ?_
    refine q_no (gft h_1) ?_
    refine q_pick_bf (v := .bool false) rfl rfl h_1 rfl ?_
    refine q_assign (v := .bool false) rfl rfl ?_
    refine done ?_
    refine thenN ?_
    refine wp_ret ?_
    refine ret1v (.bool false) rfl rfl ?_
    exact ⟨Evo.refl _ _, by simp [*]⟩

theorem kindly_c (w : World) {M : Nat → Prop} (s : ByteArray) :
    Calls Tryd.prog 65 (List.toArray [.string s]) w (Ret No w fun v _ => v = .bool (kindlyM s)) := by
  refine enter (n := 28) [(0, .string s)] Tryd.func65 rfl (by kernel_rfl) ?_
  refine seq ?_
  refine region [true] ?_
  refine q_assign (v := .bool false) rfl rfl ?_
  refine done ?_
  refine thenN ?_
  refine seq ?_
  refine seq ?_
  refine region [true, true, true, true, true, true, true, true] ?_
  refine q_move (v := .string s) rfl rfl ?_
  refine q_lenS rfl rfl st9 ?_
  refine q_lss rfl rfl rfl ?_
  refine q_move (v := .bool (decide ((s.size : Int) < 1))) rfl rfl ?_
  rcases bsplit (decide ((s.size : Int) < 1)) with h_1 | h_1
  · skip
    have h_1p := of_decide_eq_true h_1
    refine q_no (gtf h_1) ?_
    refine q_no (gtf h_1) ?_
    refine q_no (gtf h_1) ?_
    refine q_pick_bt (v := .bool true) rfl rfl h_1 rfl ?_
    refine done ?_
    refine thenN ?_
    refine cond_t rfl ?_
    refine seq ?_
    refine region [true] ?_
    refine q_assign (v := .bool false) rfl rfl ?_
    refine done ?_
    refine thenN ?_
    refine wp_ret ?_
    refine thenR ?_
    refine ret1v (.bool false) rfl rfl ?_
    exact ⟨Evo.refl _ _, by congr 1; symm; unfold kindlyM; simp; omega⟩
  · skip
    have h_1p := of_decide_eq_false h_1
    refine q_move (v := .string s) (gff h_1) rfl ?_
    refine q_lenS (gff h_1) rfl st9 ?_
    refine q_gtr (gff h_1) rfl rfl ?_
    refine q_pick_bf (v := .bool (decide (8 < (s.size : Int)))) rfl rfl h_1 rfl ?_
    refine done ?_
    refine thenN ?_
    refine cond_b rfl (fun h_2 => ?_) (fun h_2 => ?_)
    · skip
      have h_2p := of_decide_eq_true h_2
      refine seq ?_
      refine region [true] ?_
      refine q_assign (v := .bool false) rfl rfl ?_
      refine done ?_
      refine thenN ?_
      refine wp_ret ?_
      refine thenR ?_
      refine ret1v (.bool false) rfl rfl ?_
      exact ⟨Evo.refl _ _, by congr 1; symm; unfold kindlyM; simp; omega⟩
    · skip
      have h_2p := of_decide_eq_false h_2
      refine wp_skip ?_
      refine thenN ?_
      refine seq ?_
      refine seq ?_
      refine region [true] ?_
      refine q_assign (v := .int .i64 0) rfl rfl ?_
      refine done ?_
      refine thenN ?_
      refine blk ?_
      refine loopN [12, 13, 14, 15, 18, 19, 20, 21, 22, 23, 24, 25, 26, 27, 2, 16, 17, 3] (fun k9 R9 wJ => ∃ (j : Nat), R9 = [(3, .int .i64 (j : Int))] ∧ (j ≤ s.size) ∧ ((s.data.toList.drop j).all okk = s.data.toList.all okk) ∧ (Evo No w wJ) ∧ (Evo No w wJ) ∧ k9 = s.size - j) ⟨_, _, ⟨0, rfl, Nat.zero_le _, by simp, Evo.refl _ _, Evo.refl _ _, rfl⟩, ⟨(by kernel_rfl), trivial⟩⟩ (fun k9 R9 u_3 w1 J_4 => ?_)
      obtain ⟨j, rfl, hj, hp, x9j, z9j, rfl⟩ := J_4
      have e0_1 : Evo M w w1 := x9j.no
      have exj_1 : Evo M w w1 := x9j.no
      have enj_1 : Evo No w w1 := x9j
      refine seq ?_
      refine seq ?_
      refine region [true, true, true, true] ?_
      refine q_move (v := .int .i64 (j : Int)) rfl rfl ?_
      refine q_move (v := .string s) rfl rfl ?_
      refine q_lenS rfl rfl st9 ?_
      refine q_lss rfl rfl rfl ?_
      refine done ?_
      refine thenN ?_
      refine cond_b rfl (fun h_5 => ?_) (fun h_5 => ?_)
      · skip
        have h_5p := of_decide_eq_true h_5
        refine wp_skip ?_
        refine thenN ?_
        refine seq ?_
        refine blk ?_
        refine seq ?_
        refine region [true, true, true, true, true, true, true, true, true, true] ?_
        refine q_move (v := .string s) rfl rfl ?_
        refine q_move (v := .int .i64 (j : Int)) rfl rfl ?_
        obtain ⟨c_6, hc_6, gc_6⟩ := strGet s (i := (j : Int)) (by omega) (by omega)
        have bc_6 := c_6.toNat_lt
        refine q_indexS rfl rfl rfl st9 (by omega) hc_6 ?_
        refine q_lss rfl rfl rfl ?_
        refine q_move (v := .bool (decide ((c_6.toNat : Int) < 97))) rfl rfl ?_
        rcases bsplit (decide ((c_6.toNat : Int) < 97)) with h_7 | h_7
        · skip
          have h_7p := of_decide_eq_true h_7
          refine q_no (gtf h_7) ?_
          refine q_no (gtf h_7) ?_
          refine q_no (gtf h_7) ?_
          refine q_no (gtf h_7) ?_
          refine q_pick_bt (v := .bool true) rfl rfl h_7 rfl ?_
          refine done ?_
          refine thenN ?_
          refine cond_t rfl ?_
          refine seq ?_
          refine region [true] ?_
          refine q_assign (v := .bool false) rfl rfl ?_
          refine done ?_
          refine thenN ?_
          refine wp_ret ?_
          refine blkR ?_
          refine thenR ?_
          refine thenR ?_
          refine blkR ?_
          refine thenR ?_
          refine ret1v (.bool false) rfl rfl ?_
          have hok : okk c_6 = false := by unfold okk; simp; omega
          exact ⟨z9j, by unfold kindlyM; rw [← hp, drop_cons (i := j) gc_6, List.all_cons, hok]; simp⟩
        · skip
          have h_7p := of_decide_eq_false h_7
          refine q_move (v := .string s) (gff h_7) rfl ?_
          refine q_move (v := .int .i64 (j : Int)) (gff h_7) rfl ?_
          refine q_indexS (gff h_7) rfl rfl st9 (by omega) hc_6 ?_
          refine q_gtr (gff h_7) rfl rfl ?_
          refine q_pick_bf (v := .bool (decide (122 < (c_6.toNat : Int)))) rfl rfl h_7 rfl ?_
          refine done ?_
          refine thenN ?_
          refine cond_b rfl (fun h_8 => ?_) (fun h_8 => ?_)
          · skip
            have h_8p := of_decide_eq_true h_8
            refine seq ?_
            refine region [true] ?_
            refine q_assign (v := .bool false) rfl rfl ?_
            refine done ?_
            refine thenN ?_
            refine wp_ret ?_
            refine blkR ?_
            refine thenR ?_
            refine thenR ?_
            refine blkR ?_
            refine thenR ?_
            refine ret1v (.bool false) rfl rfl ?_
            have hok : okk c_6 = false := by unfold okk; simp; omega
            exact ⟨z9j, by unfold kindlyM; rw [← hp, drop_cons (i := j) gc_6, List.all_cons, hok]; simp⟩
          · skip
            have h_8p := of_decide_eq_false h_8
            refine wp_skip ?_
            refine blkN ?_
            refine thenN ?_
            refine region [true, true, true] ?_
            refine q_move (v := .int .i64 (j : Int)) rfl rfl ?_
            refine q_add rfl rfl rfl (wi64 (by omega) (by omega)) ?_
            refine q_assign (v := .int .i64 ((j : Int) + 1)) rfl rfl ?_
            refine done ?_
            refine thenN ?_
            have hok : okk c_6 = true := by unfold okk; simp; omega
            refine ⟨_, _, ?_, ⟨j + 1, rfl, by omega, by rw [← hp, drop_cons (i := j) gc_6, List.all_cons, hok, Bool.true_and], enj_1, z9j, rfl⟩, Env.near_at 36 (by kernel_rfl) (by kernel_rfl) ⟨(Eq.trans (b := Go.Value.int .i64 ((j : Int) + 1)) (by kernel_rfl) (nextI j)), trivial⟩⟩
            omega
      · skip
        have h_5p := of_decide_eq_false h_5
        refine wp_exit ?_
        refine thenX ?_
        refine thenX ?_
        refine blkX ?_
        refine thenN ?_
        refine seq ?_
        refine region [true] ?_
        refine q_assign (v := .bool true) rfl rfl ?_
        refine done ?_
        refine thenN ?_
        refine wp_ret ?_
        refine ret1v (.bool true) rfl rfl ?_
        exact ⟨z9j, by rw [List.drop_eq_nil_of_le (by simp; omega)] at hp; unfold kindlyM; rw [← hp]; simp; omega⟩

theorem refName_c (w : World) {M : Nat → Prop} (s : ByteArray) :
    Calls Tryd.prog 71 (List.toArray [.string s]) w (Ret No w fun v _ => v = .bool (validName s)) := by
  refine enter (n := 48) [(0, .string s)] Tryd.func71 rfl (by kernel_rfl) ?_
  refine seq ?_
  refine region [true] ?_
  refine q_assign (v := .bool false) rfl rfl ?_
  refine done ?_
  refine thenN ?_
  refine seq ?_
  refine seq ?_
  refine region [true, true, true, true, true, true, true, true] ?_
  refine q_move (v := .string s) rfl rfl ?_
  refine q_lenS rfl rfl st9 ?_
  refine q_lss rfl rfl rfl ?_
  refine q_move (v := .bool (decide ((s.size : Int) < 1))) rfl rfl ?_
  rcases bsplit (decide ((s.size : Int) < 1)) with h_1 | h_1
  · skip
    have h_1p := of_decide_eq_true h_1
    refine q_no (gtf h_1) ?_
    refine q_no (gtf h_1) ?_
    refine q_no (gtf h_1) ?_
    refine q_pick_bt (v := .bool true) rfl rfl h_1 rfl ?_
    refine done ?_
    refine thenN ?_
    refine cond_t rfl ?_
    refine seq ?_
    refine region [true] ?_
    refine q_assign (v := .bool false) rfl rfl ?_
    refine done ?_
    refine thenN ?_
    refine wp_ret ?_
    refine thenR ?_
    refine ret1v (.bool false) rfl rfl ?_
    exact ⟨Evo.refl _ _, by congr 1; symm; unfold validName; simp; omega⟩
  · skip
    have h_1p := of_decide_eq_false h_1
    refine q_move (v := .string s) (gff h_1) rfl ?_
    refine q_lenS (gff h_1) rfl st9 ?_
    refine q_gtr (gff h_1) rfl rfl ?_
    refine q_pick_bf (v := .bool (decide (64 < (s.size : Int)))) rfl rfl h_1 rfl ?_
    refine done ?_
    refine thenN ?_
    refine cond_b rfl (fun h_2 => ?_) (fun h_2 => ?_)
    · skip
      have h_2p := of_decide_eq_true h_2
      refine seq ?_
      refine region [true] ?_
      refine q_assign (v := .bool false) rfl rfl ?_
      refine done ?_
      refine thenN ?_
      refine wp_ret ?_
      refine thenR ?_
      refine ret1v (.bool false) rfl rfl ?_
      exact ⟨Evo.refl _ _, by congr 1; symm; unfold validName; simp; omega⟩
    · skip
      have h_2p := of_decide_eq_false h_2
      refine wp_skip ?_
      refine thenN ?_
      refine seq ?_
      refine seq ?_
      refine region [true] ?_
      refine q_assign (v := .int .i64 0) rfl rfl ?_
      refine done ?_
      refine thenN ?_
      refine blk ?_
      refine loopN [13, 14, 15, 16, 19, 20, 21, 4, 22, 23, 24, 25, 26, 27, 28, 29, 30, 31, 32, 33, 34, 35, 36, 37, 38, 39, 40, 41, 42, 43, 44, 45, 46, 47, 2, 17, 18, 3] (fun k9 R9 wJ => ∃ (j : Nat), R9 = [(3, .int .i64 (j : Int))] ∧ (j ≤ s.size) ∧ ((s.data.toList.drop j).all okc = s.data.toList.all okc) ∧ (Evo No w wJ) ∧ (Evo No w wJ) ∧ k9 = s.size - j) ⟨_, _, ⟨0, rfl, Nat.zero_le _, by simp, Evo.refl _ _, Evo.refl _ _, rfl⟩, ⟨(by kernel_rfl), trivial⟩⟩ (fun k9 R9 u_3 w1 J_4 => ?_)
      obtain ⟨j, rfl, hj, hp, x9j, z9j, rfl⟩ := J_4
      have e0_1 : Evo M w w1 := x9j.no
      have exj_1 : Evo M w w1 := x9j.no
      have enj_1 : Evo No w w1 := x9j
      refine seq ?_
      refine seq ?_
      refine region [true, true, true, true] ?_
      refine q_move (v := .int .i64 (j : Int)) rfl rfl ?_
      refine q_move (v := .string s) rfl rfl ?_
      refine q_lenS rfl rfl st9 ?_
      refine q_lss rfl rfl rfl ?_
      refine done ?_
      refine thenN ?_
      refine cond_b rfl (fun h_5 => ?_) (fun h_5 => ?_)
      · skip
        have h_5p := of_decide_eq_true h_5
        refine wp_skip ?_
        refine thenN ?_
        refine seq ?_
        refine blk ?_
        refine seq ?_
        refine region [true, true, true, true] ?_
        refine q_move (v := .string s) rfl rfl ?_
        refine q_move (v := .int .i64 (j : Int)) rfl rfl ?_
        obtain ⟨c_6, hc_6, gc_6⟩ := strGet s (i := (j : Int)) (by omega) (by omega)
        have bc_6 := c_6.toNat_lt
        refine q_indexS rfl rfl rfl st9 (by omega) hc_6 ?_
        refine q_assign (v := .int .u8 (c_6.toNat : Int)) rfl rfl ?_
        refine done ?_
        refine thenN ?_
        refine cutN [22, 23, 24, 25, 26, 27, 28, 29, 30, 31, 32, 33, 34, 35, 36, 37, 38, 39, 40, 41, 42, 43, 44, 45, 46, 47] (fun R9 wJ => R9 = [(47, .bool (!(okc c_6)))] ∧ Evo No w1 wJ) ?_ ?_
        · skip
          refine region [true, true, true, true, true, true, true, true, true, true, true, true, true, true, true, true, true, true, true, true, true, true, true, true, true, true] ?_
          refine q_move (v := .int .u8 (c_6.toNat : Int)) rfl rfl ?_
          refine q_lss rfl rfl rfl ?_
          refine q_move (v := .bool (decide ((c_6.toNat : Int) < 97))) rfl rfl ?_
          rcases bsplit (decide ((c_6.toNat : Int) < 97)) with h_9 | h_9
          · skip
            have h_9p := of_decide_eq_true h_9
            refine q_no (gtf h_9) ?_
            refine q_no (gtf h_9) ?_
            refine q_pick_bt (v := .bool true) rfl rfl h_9 rfl ?_
            refine q_move (v := .bool true) rfl rfl ?_
            refine q_move (v := .int .u8 (c_6.toNat : Int)) rfl rfl ?_
            refine q_lss rfl rfl rfl ?_
            refine q_move (v := .bool (decide ((c_6.toNat : Int) < 48))) rfl rfl ?_
            rcases bsplit (decide ((c_6.toNat : Int) < 48)) with h_10 | h_10
            · skip
              have h_10p := of_decide_eq_true h_10
              refine q_no (gtf h_10) ?_
              refine q_no (gtf h_10) ?_
              refine q_pick_bt (v := .bool true) rfl rfl h_10 rfl ?_
              refine q_pick_t (v := .bool true) rfl rfl rfl ?_
              refine q_move (v := .bool true) rfl rfl ?_
              refine q_move (v := .int .u8 (c_6.toNat : Int)) rfl rfl ?_
              refine q_neq rfl rfl rfl ?_
              refine q_pick_t (v := .bool (!(decide ((c_6.toNat : Int) = 46)))) rfl rfl rfl ?_
              refine q_move (v := .bool (!(decide ((c_6.toNat : Int) = 46)))) rfl rfl ?_
              rcases bsplit (!(decide ((c_6.toNat : Int) = 46))) with h_11 | h_11
              · skip
                have h_12 := unT h_11
                have h_12p := of_decide_eq_false h_12
                refine q_move (v := .int .u8 (c_6.toNat : Int)) (gtt h_11) rfl ?_
                refine q_neq (gtt h_11) rfl rfl ?_
                refine q_pick_bt (v := .bool (!(decide ((c_6.toNat : Int) = 45)))) rfl rfl h_11 rfl ?_
                refine q_move (v := .bool (!(decide ((c_6.toNat : Int) = 45)))) rfl rfl ?_
                rcases bsplit (!(decide ((c_6.toNat : Int) = 45))) with h_13 | h_13
                · skip
                  have h_14 := unT h_13
                  have h_14p := of_decide_eq_false h_14
                  refine q_move (v := .int .u8 (c_6.toNat : Int)) (gtt h_13) rfl ?_
                  refine q_neq (gtt h_13) rfl rfl ?_
                  refine q_pick_bt (v := .bool (!(decide ((c_6.toNat : Int) = 95)))) rfl rfl h_13 rfl ?_
                  refine done ?_
                  refine thenN ?_
                  exact ⟨_, ⟨rfl, Evo.refl _ _⟩, Env.near_at 26 (by kernel_rfl) (by kernel_rfl) ⟨(Eq.trans (b := .bool (!(decide ((c_6.toNat : Int) = 95)))) (by kernel_rfl) (congrArg _ (by unfold okc; rw [Bool.eq_iff_iff]; simp; omega))), trivial⟩⟩
                · skip
                  have h_15 := unF h_13
                  have h_15p := of_decide_eq_true h_15
                  refine q_no (gft h_13) ?_
                  refine q_no (gft h_13) ?_
                  refine q_pick_bf (v := .bool false) rfl rfl h_13 rfl ?_
                  refine done ?_
                  refine thenN ?_
                  exact ⟨_, ⟨rfl, Evo.refl _ _⟩, Env.near_at 26 (by kernel_rfl) (by kernel_rfl) ⟨(Eq.trans (b := .bool false) (by kernel_rfl) (congrArg _ (by unfold okc; rw [Bool.eq_iff_iff]; simp; omega))), trivial⟩⟩
              · skip
                have h_16 := unF h_11
                have h_16p := of_decide_eq_true h_16
                refine q_no (gft h_11) ?_
                refine q_no (gft h_11) ?_
                refine q_pick_bf (v := .bool false) rfl rfl h_11 rfl ?_
                refine q_move (v := .bool false) rfl rfl ?_
                refine q_no rfl ?_
                refine q_no rfl ?_
                refine q_pick_f (v := .bool false) rfl rfl rfl ?_
                refine done ?_
                refine thenN ?_
                exact ⟨_, ⟨rfl, Evo.refl _ _⟩, Env.near_at 26 (by kernel_rfl) (by kernel_rfl) ⟨(Eq.trans (b := .bool false) (by kernel_rfl) (congrArg _ (by unfold okc; rw [Bool.eq_iff_iff]; simp; omega))), trivial⟩⟩
            · skip
              have h_10p := of_decide_eq_false h_10
              refine q_move (v := .int .u8 (c_6.toNat : Int)) (gff h_10) rfl ?_
              refine q_gtr (gff h_10) rfl rfl ?_
              refine q_pick_bf (v := .bool (decide (57 < (c_6.toNat : Int)))) rfl rfl h_10 rfl ?_
              refine q_pick_t (v := .bool (decide (57 < (c_6.toNat : Int)))) rfl rfl rfl ?_
              refine q_move (v := .bool (decide (57 < (c_6.toNat : Int)))) rfl rfl ?_
              rcases bsplit (decide (57 < (c_6.toNat : Int))) with h_17 | h_17
              · skip
                have h_17p := of_decide_eq_true h_17
                refine q_move (v := .int .u8 (c_6.toNat : Int)) (gtt h_17) rfl ?_
                refine q_neq (gtt h_17) rfl rfl ?_
                refine q_pick_bt (v := .bool (!(decide ((c_6.toNat : Int) = 46)))) rfl rfl h_17 rfl ?_
                refine q_move (v := .bool (!(decide ((c_6.toNat : Int) = 46)))) rfl rfl ?_
                rcases bsplit (!(decide ((c_6.toNat : Int) = 46))) with h_18 | h_18
                · skip
                  have h_19 := unT h_18
                  have h_19p := of_decide_eq_false h_19
                  refine q_move (v := .int .u8 (c_6.toNat : Int)) (gtt h_18) rfl ?_
                  refine q_neq (gtt h_18) rfl rfl ?_
                  refine q_pick_bt (v := .bool (!(decide ((c_6.toNat : Int) = 45)))) rfl rfl h_18 rfl ?_
                  refine q_move (v := .bool (!(decide ((c_6.toNat : Int) = 45)))) rfl rfl ?_
                  rcases bsplit (!(decide ((c_6.toNat : Int) = 45))) with h_20 | h_20
                  · skip
                    have h_21 := unT h_20
                    have h_21p := of_decide_eq_false h_21
                    refine q_move (v := .int .u8 (c_6.toNat : Int)) (gtt h_20) rfl ?_
                    refine q_neq (gtt h_20) rfl rfl ?_
                    refine q_pick_bt (v := .bool (!(decide ((c_6.toNat : Int) = 95)))) rfl rfl h_20 rfl ?_
                    refine done ?_
                    refine thenN ?_
                    exact ⟨_, ⟨rfl, Evo.refl _ _⟩, Env.near_at 26 (by kernel_rfl) (by kernel_rfl) ⟨(Eq.trans (b := .bool (!(decide ((c_6.toNat : Int) = 95)))) (by kernel_rfl) (congrArg _ (by unfold okc; rw [Bool.eq_iff_iff]; simp; omega))), trivial⟩⟩
                  · skip
                    have h_22 := unF h_20
                    have h_22p := of_decide_eq_true h_22
                    refine q_no (gft h_20) ?_
                    refine q_no (gft h_20) ?_
                    refine q_pick_bf (v := .bool false) rfl rfl h_20 rfl ?_
                    refine done ?_
                    refine thenN ?_
                    exact ⟨_, ⟨rfl, Evo.refl _ _⟩, Env.near_at 26 (by kernel_rfl) (by kernel_rfl) ⟨(Eq.trans (b := .bool false) (by kernel_rfl) (congrArg _ (by unfold okc; rw [Bool.eq_iff_iff]; simp; omega))), trivial⟩⟩
                · skip
                  have h_23 := unF h_18
                  have h_23p := of_decide_eq_true h_23
                  refine q_no (gft h_18) ?_
                  refine q_no (gft h_18) ?_
                  refine q_pick_bf (v := .bool false) rfl rfl h_18 rfl ?_
                  refine q_move (v := .bool false) rfl rfl ?_
                  refine q_no rfl ?_
                  refine q_no rfl ?_
                  refine q_pick_f (v := .bool false) rfl rfl rfl ?_
                  refine done ?_
                  refine thenN ?_
                  exact ⟨_, ⟨rfl, Evo.refl _ _⟩, Env.near_at 26 (by kernel_rfl) (by kernel_rfl) ⟨(Eq.trans (b := .bool false) (by kernel_rfl) (congrArg _ (by unfold okc; rw [Bool.eq_iff_iff]; simp; omega))), trivial⟩⟩
              · skip
                have h_17p := of_decide_eq_false h_17
                refine q_no (gft h_17) ?_
                refine q_no (gft h_17) ?_
                refine q_pick_bf (v := .bool false) rfl rfl h_17 rfl ?_
                refine q_move (v := .bool false) rfl rfl ?_
                refine q_no rfl ?_
                refine q_no rfl ?_
                refine q_pick_f (v := .bool false) rfl rfl rfl ?_
                refine q_move (v := .bool false) rfl rfl ?_
                refine q_no rfl ?_
                refine q_no rfl ?_
                refine q_pick_f (v := .bool false) rfl rfl rfl ?_
                refine done ?_
                refine thenN ?_
                exact ⟨_, ⟨rfl, Evo.refl _ _⟩, Env.near_at 26 (by kernel_rfl) (by kernel_rfl) ⟨(Eq.trans (b := .bool false) (by kernel_rfl) (congrArg _ (by unfold okc; rw [Bool.eq_iff_iff]; simp; omega))), trivial⟩⟩
          · skip
            have h_9p := of_decide_eq_false h_9
            refine q_move (v := .int .u8 (c_6.toNat : Int)) (gff h_9) rfl ?_
            refine q_gtr (gff h_9) rfl rfl ?_
            refine q_pick_bf (v := .bool (decide (122 < (c_6.toNat : Int)))) rfl rfl h_9 rfl ?_
            refine q_move (v := .bool (decide (122 < (c_6.toNat : Int)))) rfl rfl ?_
            rcases bsplit (decide (122 < (c_6.toNat : Int))) with h_24 | h_24
            · skip
              have h_24p := of_decide_eq_true h_24
              refine q_move (v := .int .u8 (c_6.toNat : Int)) (gtt h_24) rfl ?_
              refine q_lss (gtt h_24) rfl rfl ?_
              refine q_move (v := .bool (decide ((c_6.toNat : Int) < 48))) (gtt h_24) rfl ?_
              rcases bsplit (decide ((c_6.toNat : Int) < 48)) with h_25 | h_25
              · skip
                have h_25p := of_decide_eq_true h_25
                refine q_no (gtf h_25) ?_
                refine q_no (gtf h_25) ?_
                refine q_pick_bt (v := .bool true) (gtt h_24) rfl h_25 rfl ?_
                refine q_pick_bt (v := .bool true) rfl rfl h_24 rfl ?_
                refine q_move (v := .bool true) rfl rfl ?_
                refine q_move (v := .int .u8 (c_6.toNat : Int)) rfl rfl ?_
                refine q_neq rfl rfl rfl ?_
                refine q_pick_t (v := .bool (!(decide ((c_6.toNat : Int) = 46)))) rfl rfl rfl ?_
                refine q_move (v := .bool (!(decide ((c_6.toNat : Int) = 46)))) rfl rfl ?_
                rcases bsplit (!(decide ((c_6.toNat : Int) = 46))) with h_26 | h_26
                · skip
                  have h_27 := unT h_26
                  have h_27p := of_decide_eq_false h_27
                  refine q_move (v := .int .u8 (c_6.toNat : Int)) (gtt h_26) rfl ?_
                  refine q_neq (gtt h_26) rfl rfl ?_
                  refine q_pick_bt (v := .bool (!(decide ((c_6.toNat : Int) = 45)))) rfl rfl h_26 rfl ?_
                  refine q_move (v := .bool (!(decide ((c_6.toNat : Int) = 45)))) rfl rfl ?_
                  rcases bsplit (!(decide ((c_6.toNat : Int) = 45))) with h_28 | h_28
                  · skip
                    have h_29 := unT h_28
                    have h_29p := of_decide_eq_false h_29
                    refine q_move (v := .int .u8 (c_6.toNat : Int)) (gtt h_28) rfl ?_
                    refine q_neq (gtt h_28) rfl rfl ?_
                    refine q_pick_bt (v := .bool (!(decide ((c_6.toNat : Int) = 95)))) rfl rfl h_28 rfl ?_
                    refine done ?_
                    refine thenN ?_
                    exact ⟨_, ⟨rfl, Evo.refl _ _⟩, Env.near_at 26 (by kernel_rfl) (by kernel_rfl) ⟨(Eq.trans (b := .bool (!(decide ((c_6.toNat : Int) = 95)))) (by kernel_rfl) (congrArg _ (by unfold okc; rw [Bool.eq_iff_iff]; simp; omega))), trivial⟩⟩
                  · skip
                    have h_30 := unF h_28
                    have h_30p := of_decide_eq_true h_30
                    refine q_no (gft h_28) ?_
                    refine q_no (gft h_28) ?_
                    refine q_pick_bf (v := .bool false) rfl rfl h_28 rfl ?_
                    refine done ?_
                    refine thenN ?_
                    exact ⟨_, ⟨rfl, Evo.refl _ _⟩, Env.near_at 26 (by kernel_rfl) (by kernel_rfl) ⟨(Eq.trans (b := .bool false) (by kernel_rfl) (congrArg _ (by unfold okc; rw [Bool.eq_iff_iff]; simp; omega))), trivial⟩⟩
                · skip
                  have h_31 := unF h_26
                  have h_31p := of_decide_eq_true h_31
                  refine q_no (gft h_26) ?_
                  refine q_no (gft h_26) ?_
                  refine q_pick_bf (v := .bool false) rfl rfl h_26 rfl ?_
                  refine q_move (v := .bool false) rfl rfl ?_
                  refine q_no rfl ?_
                  refine q_no rfl ?_
                  refine q_pick_f (v := .bool false) rfl rfl rfl ?_
                  refine done ?_
                  refine thenN ?_
                  exact ⟨_, ⟨rfl, Evo.refl _ _⟩, Env.near_at 26 (by kernel_rfl) (by kernel_rfl) ⟨(Eq.trans (b := .bool false) (by kernel_rfl) (congrArg _ (by unfold okc; rw [Bool.eq_iff_iff]; simp; omega))), trivial⟩⟩
              · skip
                have h_25p := of_decide_eq_false h_25
                refine q_move (v := .int .u8 (c_6.toNat : Int)) (gff h_25) rfl ?_
                refine q_gtr (gff h_25) rfl rfl ?_
                refine q_pick_bf (v := .bool (decide (57 < (c_6.toNat : Int)))) (gtt h_24) rfl h_25 rfl ?_
                refine q_pick_bt (v := .bool (decide (57 < (c_6.toNat : Int)))) rfl rfl h_24 rfl ?_
                refine q_move (v := .bool (decide (57 < (c_6.toNat : Int)))) rfl rfl ?_
                rcases bsplit (decide (57 < (c_6.toNat : Int))) with h_32 | h_32
                · skip
                  have h_32p := of_decide_eq_true h_32
                  refine q_move (v := .int .u8 (c_6.toNat : Int)) (gtt h_32) rfl ?_
                  refine q_neq (gtt h_32) rfl rfl ?_
                  refine q_pick_bt (v := .bool (!(decide ((c_6.toNat : Int) = 46)))) rfl rfl h_32 rfl ?_
                  refine q_move (v := .bool (!(decide ((c_6.toNat : Int) = 46)))) rfl rfl ?_
                  rcases bsplit (!(decide ((c_6.toNat : Int) = 46))) with h_33 | h_33
                  · skip
                    have h_34 := unT h_33
                    have h_34p := of_decide_eq_false h_34
                    refine q_move (v := .int .u8 (c_6.toNat : Int)) (gtt h_33) rfl ?_
                    refine q_neq (gtt h_33) rfl rfl ?_
                    refine q_pick_bt (v := .bool (!(decide ((c_6.toNat : Int) = 45)))) rfl rfl h_33 rfl ?_
                    refine q_move (v := .bool (!(decide ((c_6.toNat : Int) = 45)))) rfl rfl ?_
                    rcases bsplit (!(decide ((c_6.toNat : Int) = 45))) with h_35 | h_35
                    · skip
                      have h_36 := unT h_35
                      have h_36p := of_decide_eq_false h_36
                      refine q_move (v := .int .u8 (c_6.toNat : Int)) (gtt h_35) rfl ?_
                      refine q_neq (gtt h_35) rfl rfl ?_
                      refine q_pick_bt (v := .bool (!(decide ((c_6.toNat : Int) = 95)))) rfl rfl h_35 rfl ?_
                      refine done ?_
                      refine thenN ?_
                      exact ⟨_, ⟨rfl, Evo.refl _ _⟩, Env.near_at 26 (by kernel_rfl) (by kernel_rfl) ⟨(Eq.trans (b := .bool (!(decide ((c_6.toNat : Int) = 95)))) (by kernel_rfl) (congrArg _ (by unfold okc; rw [Bool.eq_iff_iff]; simp; omega))), trivial⟩⟩
                    · skip
                      have h_37 := unF h_35
                      have h_37p := of_decide_eq_true h_37
                      refine q_no (gft h_35) ?_
                      refine q_no (gft h_35) ?_
                      refine q_pick_bf (v := .bool false) rfl rfl h_35 rfl ?_
                      refine done ?_
                      refine thenN ?_
                      exact ⟨_, ⟨rfl, Evo.refl _ _⟩, Env.near_at 26 (by kernel_rfl) (by kernel_rfl) ⟨(Eq.trans (b := .bool false) (by kernel_rfl) (congrArg _ (by unfold okc; rw [Bool.eq_iff_iff]; simp; omega))), trivial⟩⟩
                  · skip
                    have h_38 := unF h_33
                    have h_38p := of_decide_eq_true h_38
                    refine q_no (gft h_33) ?_
                    refine q_no (gft h_33) ?_
                    refine q_pick_bf (v := .bool false) rfl rfl h_33 rfl ?_
                    refine q_move (v := .bool false) rfl rfl ?_
                    refine q_no rfl ?_
                    refine q_no rfl ?_
                    refine q_pick_f (v := .bool false) rfl rfl rfl ?_
                    refine done ?_
                    refine thenN ?_
                    exact ⟨_, ⟨rfl, Evo.refl _ _⟩, Env.near_at 26 (by kernel_rfl) (by kernel_rfl) ⟨(Eq.trans (b := .bool false) (by kernel_rfl) (congrArg _ (by unfold okc; rw [Bool.eq_iff_iff]; simp; omega))), trivial⟩⟩
                · skip
                  have h_32p := of_decide_eq_false h_32
                  refine q_no (gft h_32) ?_
                  refine q_no (gft h_32) ?_
                  refine q_pick_bf (v := .bool false) rfl rfl h_32 rfl ?_
                  refine q_move (v := .bool false) rfl rfl ?_
                  refine q_no rfl ?_
                  refine q_no rfl ?_
                  refine q_pick_f (v := .bool false) rfl rfl rfl ?_
                  refine q_move (v := .bool false) rfl rfl ?_
                  refine q_no rfl ?_
                  refine q_no rfl ?_
                  refine q_pick_f (v := .bool false) rfl rfl rfl ?_
                  refine done ?_
                  refine thenN ?_
                  exact ⟨_, ⟨rfl, Evo.refl _ _⟩, Env.near_at 26 (by kernel_rfl) (by kernel_rfl) ⟨(Eq.trans (b := .bool false) (by kernel_rfl) (congrArg _ (by unfold okc; rw [Bool.eq_iff_iff]; simp; omega))), trivial⟩⟩
            · skip
              have h_24p := of_decide_eq_false h_24
              refine q_no (gft h_24) ?_
              refine q_no (gft h_24) ?_
              refine q_no (gft h_24) ?_
              refine q_no rfl ?_
              refine q_no rfl ?_
              refine q_no (gft h_24) ?_
              refine q_pick_bf (v := .bool false) rfl rfl h_24 rfl ?_
              refine q_move (v := .bool false) rfl rfl ?_
              refine q_no rfl ?_
              refine q_no rfl ?_
              refine q_pick_f (v := .bool false) rfl rfl rfl ?_
              refine q_move (v := .bool false) rfl rfl ?_
              refine q_no rfl ?_
              refine q_no rfl ?_
              refine q_pick_f (v := .bool false) rfl rfl rfl ?_
              refine q_move (v := .bool false) rfl rfl ?_
              refine q_no rfl ?_
              refine q_no rfl ?_
              refine q_pick_f (v := .bool false) rfl rfl rfl ?_
              refine done ?_
              refine thenN ?_
              exact ⟨_, ⟨rfl, Evo.refl _ _⟩, Env.near_at 26 (by kernel_rfl) (by kernel_rfl) ⟨(Eq.trans (b := .bool false) (by kernel_rfl) (congrArg _ (by unfold okc; rw [Bool.eq_iff_iff]; simp; omega))), trivial⟩⟩
        · rintro _ u_7 w2 ⟨rfl, s2⟩
          have e0_2 : Evo M w w2 := e0_1.trans s2.no
          have exj_2 : Evo M w w2 := exj_1.trans s2.no
          have enj_2 : Evo No w w2 := enj_1.trans s2.no
          have z2 : Evo No w w2 := z9j.trans s2.no
          refine cond_b rfl (fun h_39 => ?_) (fun h_39 => ?_)
          · skip
            have h_40 := unT h_39
            refine seq ?_
            refine region [true] ?_
            refine q_assign (v := .bool false) rfl rfl ?_
            refine done ?_
            refine thenN ?_
            refine wp_ret ?_
            refine blkR ?_
            refine thenR ?_
            refine thenR ?_
            refine blkR ?_
            refine thenR ?_
            refine ret1v (.bool false) rfl rfl ?_
            have hok : okc c_6 = false := by simpa using h_40
            exact ⟨z2, by unfold validName; rw [← hp, drop_cons (i := j) gc_6, List.all_cons, hok]; simp⟩
          · skip
            have h_41 := unF h_39
            refine wp_skip ?_
            refine blkN ?_
            refine thenN ?_
            refine region [true, true, true] ?_
            refine q_move (v := .int .i64 (j : Int)) rfl rfl ?_
            refine q_add rfl rfl rfl (wi64 (by omega) (by omega)) ?_
            refine q_assign (v := .int .i64 ((j : Int) + 1)) rfl rfl ?_
            refine done ?_
            refine thenN ?_
            have hok : okc c_6 = true := by simpa using h_41
            refine ⟨_, _, ?_, ⟨j + 1, rfl, by omega, by rw [← hp, drop_cons (i := j) gc_6, List.all_cons, hok, Bool.true_and], enj_2, z2, rfl⟩, Env.near_at 77 (by kernel_rfl) (by kernel_rfl) ⟨(Eq.trans (b := Go.Value.int .i64 ((j : Int) + 1)) (by kernel_rfl) (nextI j)), trivial⟩⟩
            omega
      · skip
        have h_5p := of_decide_eq_false h_5
        refine wp_exit ?_
        refine thenX ?_
        refine thenX ?_
        refine blkX ?_
        refine thenN ?_
        refine seq ?_
        refine region [true] ?_
        refine q_assign (v := .bool true) rfl rfl ?_
        refine done ?_
        refine thenN ?_
        refine wp_ret ?_
        refine ret1v (.bool true) rfl rfl ?_
        exact ⟨z9j, by rw [List.drop_eq_nil_of_le (by simp; omega)] at hp; unfold validName; rw [← hp]; simp; omega⟩

theorem digits_c (w : World) {M : Nat → Prop} (n : Int) (k : Nat) (h0 : 0 ≤ n) (h1 : n ≤ 9223372036854775807) (hk : k ≤ 1000) :
    Calls Tryd.prog 67 (List.toArray [.int .i64 n, .int .i64 k]) w (Ret No w fun v _ => v = .string (digs k n ⟨#[]⟩)) := by
  refine enter (n := 24) [(0, .int .i64 n), (1, .int .i64 (k : Int))] Tryd.func67 rfl (by kernel_rfl) ?_
  refine seq ?_
  refine region [true] ?_
  refine q_assign (v := .string (⟨#[]⟩ : ByteArray)) rfl rfl ?_
  refine done ?_
  refine thenN ?_
  refine seq ?_
  refine region [true] ?_
  refine q_assign (v := .string (⟨#[]⟩ : ByteArray)) rfl rfl ?_
  refine done ?_
  refine thenN ?_
  refine seq ?_
  refine seq ?_
  refine region [true] ?_
  refine q_assign (v := .int .i64 0) rfl rfl ?_
  refine done ?_
  refine thenN ?_
  refine blk ?_
  refine loopN [8, 9, 10, 13, 14, 7, 15, 16, 17, 18, 19, 20, 5, 21, 22, 0, 11, 12, 6] (fun k9 R9 wJ => ∃ (j : Nat), ∃ (m : Int), ∃ (t : ByteArray), R9 = [(0, .int .i64 m), (5, .string t), (6, .int .i64 (j : Int))] ∧ (j ≤ k) ∧ (0 ≤ m) ∧ (m ≤ 9223372036854775807) ∧ (t.size ≤ j) ∧ (digs (k - j) m t = digs k n ⟨#[]⟩) ∧ (Evo No w wJ) ∧ (Evo No w wJ) ∧ k9 = k - j) ⟨_, _, ⟨0, n, ⟨#[]⟩, rfl, Nat.zero_le _, h0, h1, Nat.le_refl _, rfl, Evo.refl _ _, Evo.refl _ _, rfl⟩, ⟨(by kernel_rfl), (by kernel_rfl), (by kernel_rfl), trivial⟩⟩ (fun k9 R9 u_1 w1 J_2 => ?_)
  obtain ⟨j, m, t, rfl, hj, hm, hm1, ht, hd, x9j, z9j, rfl⟩ := J_2
  have e0_1 : Evo M w w1 := x9j.no
  have exj_1 : Evo M w w1 := x9j.no
  have enj_1 : Evo No w w1 := x9j
  refine seq ?_
  refine seq ?_
  refine region [true, true, true] ?_
  refine q_move (v := .int .i64 (j : Int)) rfl rfl ?_
  refine q_move (v := .int .i64 (k : Int)) rfl rfl ?_
  refine q_lss rfl rfl rfl ?_
  refine done ?_
  refine thenN ?_
  refine cond_b rfl (fun h_3 => ?_) (fun h_3 => ?_)
  · skip
    have h_3p := of_decide_eq_true h_3
    refine wp_skip ?_
    refine thenN ?_
    refine seq ?_
    refine blk ?_
    refine seq ?_
    refine region [true, true, true] ?_
    refine q_move (v := .int .i64 m) rfl rfl ?_
    have ht1 := tmod_bd m 10 (by decide); have ht2 : 0 ≤ m.tmod 10 := Int.tmod_nonneg 10 hm; have hq2 : m.tdiv 10 ≤ m := Int.tdiv_le_self 10 hm; have hq1 : 0 ≤ m.tdiv 10 := Int.tdiv_nonneg hm (by decide)
    refine q_rem rfl rfl rfl (by decide) rfl ?_
    refine q_assign (v := .int .i64 (m.tmod 10)) rfl rfl ?_
    refine done ?_
    refine thenN ?_
    refine seq ?_
    refine region [true, true, true, true, true, true, true] ?_
    refine q_move (v := .int .i64 (m.tmod 10)) rfl rfl ?_
    refine q_move (v := .int .i64 (m.tmod 10)) rfl rfl ?_
    refine q_add rfl rfl rfl (wi64 (by omega) (by omega)) ?_
    refine q_strSlice rfl rfl rfl rfl st9 (by omega) (by omega) (by show _ ≤ ((10 : Nat) : Int); omega) ?_
    refine q_move (v := .string t) rfl rfl ?_
    refine q_concat rfl rfl rfl (by have h9 := ext_size (m.tmod 10); change (tenD.extract (m.tmod 10).toNat (m.tmod 10 + 1).toNat).size + t.size ≤ _; omega) ?_
    refine q_assign (v := .string (((⟨#[48, 49, 50, 51, 52, 53, 54, 55, 56, 57]⟩ : ByteArray).extract ((m.tmod 10)).toNat ((m.tmod 10) + 1).toNat) ++ t)) rfl rfl ?_
    refine done ?_
    refine thenN ?_
    refine region [true, true, true] ?_
    refine q_move (v := .int .i64 m) rfl rfl ?_
    refine q_quo rfl rfl rfl (by decide) (wi64 (by omega) (by omega)) ?_
    refine q_assign (v := .int .i64 (m.tdiv 10)) rfl rfl ?_
    refine done ?_
    refine blkN ?_
    refine thenN ?_
    refine region [true, true, true] ?_
    refine q_move (v := .int .i64 (j : Int)) rfl rfl ?_
    refine q_add rfl rfl rfl (wi64 (by omega) (by omega)) ?_
    refine q_assign (v := .int .i64 ((j : Int) + 1)) rfl rfl ?_
    refine done ?_
    refine thenN ?_
    have hx : digs (k - j) m t = digs (k - (j + 1)) (m.tdiv 10) (chrOf (m.tmod 10) ++ t) := by rw [show k - j = (k - (j + 1)) + 1 from by omega]; rfl
    refine ⟨_, _, ?_, ⟨j + 1, m.tdiv 10, _, rfl, by omega, Int.tdiv_nonneg hm (by decide), by omega, Nat.le_trans (size_chr _ _) (by omega), hx.symm.trans hd, enj_1, z9j, rfl⟩, Env.near_at 41 (by kernel_rfl) (by kernel_rfl) ⟨(by kernel_rfl), (by kernel_rfl), (Eq.trans (b := Go.Value.int .i64 ((j : Int) + 1)) (by kernel_rfl) (nextI j)), trivial⟩⟩
    omega
  · skip
    have h_3p := of_decide_eq_false h_3
    refine wp_exit ?_
    refine thenX ?_
    refine thenX ?_
    refine blkX ?_
    refine thenN ?_
    refine seq ?_
    refine region [true, true] ?_
    refine q_move (v := .string t) rfl rfl ?_
    refine q_assign (v := .string t) rfl rfl ?_
    refine done ?_
    refine thenN ?_
    refine wp_ret ?_
    refine ret1v (.string t) rfl rfl ?_
    exact ⟨z9j, by rw [show k - j = 0 from by omega] at hd; rw [← hd]; rfl⟩

theorem refObject_c (w : World) {M : Nat → Prop} (id : Int) (kind : ByteArray) (base : Int) (h0 : 0 ≤ id) (h1 : id ≤ 2147483647) (hk : kindlyM kind = true) (hks : kind.size ≤ 8) (hb : right base = true) (hb0 : 0 ≤ base) (hb1 : base ≤ 1099511627776) :
    Calls Tryd.prog 41 (List.toArray [.int .i64 id, .string kind, .int .i64 base]) w (Ret No w fun v _ => v = .string (objName id kind base)) := by
  refine enter (n := 33) [(0, .int .i64 id), (1, .string kind), (2, .int .i64 base)] Tryd.func41 rfl (by kernel_rfl) ?_
  have k1 : decide (id < 0) = false := decide_eq_false (by omega)
  have k2 : decide (2147483647 < id) = false := decide_eq_false (by omega)
  refine seq ?_
  refine region [true] ?_
  refine q_assign (v := .string (⟨#[]⟩ : ByteArray)) rfl rfl ?_
  refine done ?_
  refine thenN ?_
  refine seq ?_
  refine seq ?_
  refine region [true, true, true, true, true, true, true, true, false, true, true, true, true, false, true, true] ?_
  refine q_move (v := .int .i64 id) rfl rfl ?_
  refine q_lss rfl rfl rfl ?_
  refine q_move (v := .bool (decide (id < 0))) rfl rfl ?_
  refine q_move (v := .int .i64 id) (gff k1) rfl ?_
  refine q_gtr (gff k1) rfl rfl ?_
  refine q_pick_bf (v := .bool (decide (2147483647 < id))) rfl rfl k1 rfl ?_
  refine q_move (v := .bool (decide (2147483647 < id))) rfl rfl ?_
  refine q_move (v := .string kind) (gff k2) rfl ?_
  refine l_call Keep.any (gff k2) (kindly_c w (M := No) kind) en65 rfl rfl (fun v_1 w1 s1 q_2 => ?_)
  have e0_1 : Evo M w w1 := s1.no
  have z1 : Evo No w w1 := s1.no
  obtain rfl := q_2
  refine q_not (gff k2) rfl ?_
  refine q_pick_bf (v := .bool (!(kindlyM kind))) rfl rfl k2 rfl ?_
  refine q_move (v := .bool (!(kindlyM kind))) rfl rfl ?_
  refine q_move (v := .int .i64 base) (gff (notF hk)) rfl ?_
  refine l_call Keep.any (gff (notF hk)) (refRight_c w1 base) en66 rfl rfl (fun v_3 w2 s2 q_4 => ?_)
  have e0_2 : Evo M w w2 := e0_1.trans s2.no
  have z2 : Evo No w w2 := z1.trans s2.no
  obtain rfl := q_4
  refine q_not (gff (notF hk)) rfl ?_
  refine q_pick_bf (v := .bool (!(right base))) rfl rfl (notF hk) rfl ?_
  refine done ?_
  refine thenN ?_
  refine cond_bf rfl (notF hb) ?_
  refine wp_skip ?_
  refine thenN ?_
  refine seq ?_
  refine region [true, false, true, true, true, true, true, true, false, true, true] ?_
  refine q_move (v := .int .i64 id) rfl rfl ?_
  refine l_call Keep.any rfl (digits_c w2 (M := No) id 10 (by omega) (by omega) (by decide)) en67 rfl rfl (fun v_5 w3 s3 q_6 => ?_)
  have e0_3 : Evo M w w3 := e0_2.trans s3.no
  have z3 : Evo No w w3 := z2.trans s3.no
  obtain rfl := q_6
  refine q_concat rfl rfl rfl (by have e1 := digs_size 10 id ⟨#[]⟩; have e2 := digs_size 13 base ⟨#[]⟩; simp only [ByteArray.size_append, szL, List.length_cons, List.length_nil] at *; omega) ?_
  refine q_concat rfl rfl rfl (by have e1 := digs_size 10 id ⟨#[]⟩; have e2 := digs_size 13 base ⟨#[]⟩; simp only [ByteArray.size_append, szL, List.length_cons, List.length_nil] at *; omega) ?_
  refine q_move (v := .string kind) rfl rfl ?_
  refine q_concat rfl rfl rfl (by have e1 := digs_size 10 id ⟨#[]⟩; have e2 := digs_size 13 base ⟨#[]⟩; simp only [ByteArray.size_append, szL, List.length_cons, List.length_nil] at *; omega) ?_
  refine q_concat rfl rfl rfl (by have e1 := digs_size 10 id ⟨#[]⟩; have e2 := digs_size 13 base ⟨#[]⟩; simp only [ByteArray.size_append, szL, List.length_cons, List.length_nil] at *; omega) ?_
  refine q_move (v := .int .i64 base) rfl rfl ?_
  refine l_call Keep.any rfl (digits_c w3 (M := No) base 13 (by omega) (by omega) (by decide)) en67 rfl rfl (fun v_7 w4 s4 q_8 => ?_)
  have e0_4 : Evo M w w4 := e0_3.trans s4.no
  have z4 : Evo No w w4 := z3.trans s4.no
  obtain rfl := q_8
  refine q_concat rfl rfl rfl (by have e1 := digs_size 10 id ⟨#[]⟩; have e2 := digs_size 13 base ⟨#[]⟩; simp only [ByteArray.size_append, szL, List.length_cons, List.length_nil] at *; omega) ?_
  refine q_assign (v := .string ((((((⟨#[115, 101, 103, 45]⟩ : ByteArray) ++ (digs 10 id ⟨#[]⟩)) ++ (⟨#[45]⟩ : ByteArray)) ++ kind) ++ (⟨#[45]⟩ : ByteArray)) ++ (digs 13 base ⟨#[]⟩))) rfl rfl ?_
  refine done ?_
  refine thenN ?_
  refine wp_ret ?_
  refine ret1v (.string ((((((⟨#[115, 101, 103, 45]⟩ : ByteArray) ++ (digs 10 id ⟨#[]⟩)) ++ (⟨#[45]⟩ : ByteArray)) ++ kind) ++ (⟨#[45]⟩ : ByteArray)) ++ (digs 13 base ⟨#[]⟩))) rfl rfl ?_
  exact ⟨z4, rfl⟩

theorem more0_c (w : World) {M : Nat → Prop} :
    Calls Tryd.prog 68 (List.toArray [.int .u32 0, .slice none 0 0]) w (Ret No w fun v _ => v = .int .u32 0) := by
  refine enter (n := 37) [(0, .int .u32 0), (1, .slice none 0 0)] Tryd.func68 rfl (by kernel_rfl) ?_
  refine seq ?_
  refine region [true] ?_
  refine q_assign (v := .int .u32 0) rfl rfl ?_
  refine done ?_
  refine thenN ?_
  refine seq ?_
  refine region [true, true, true] ?_
  refine q_move (v := .int .u32 0) rfl rfl ?_
  refine q_un (v := .int .u32 4294967295) rfl rfl (fun _ => rfl) ?_
  refine q_assign (v := .int .u32 4294967295) rfl rfl ?_
  refine done ?_
  refine thenN ?_
  refine seq ?_
  refine seq ?_
  refine region [true] ?_
  refine q_assign (v := .int .i64 0) rfl rfl ?_
  refine done ?_
  refine thenN ?_
  refine blk ?_
  refine loopN [10, 11, 12, 13, 16, 17, 18, 19, 20, 21, 22, 5, 7, 23, 24, 27, 28, 29, 30, 31, 32, 33, 34, 25, 26, 14, 15, 6] (fun k9 R9 wJ => ∃ (j : Nat), R9 = [(5, .int .u32 4294967295), (6, .int .i64 (j : Int))] ∧ (j ≤ 0) ∧ (Evo No w wJ) ∧ (Evo No w wJ) ∧ k9 = 0 - j) ⟨_, _, ⟨0, rfl, Nat.zero_le _, Evo.refl _ _, Evo.refl _ _, rfl⟩, ⟨(by kernel_rfl), (by kernel_rfl), trivial⟩⟩ (fun k9 R9 u_1 w1 J_2 => ?_)
  obtain ⟨j, rfl, hj, x9j, z9j, rfl⟩ := J_2
  have e0_1 : Evo M w w1 := x9j.no
  have exj_1 : Evo M w w1 := x9j.no
  have enj_1 : Evo No w w1 := x9j
  refine seq ?_
  refine seq ?_
  refine region [true, true, true, true] ?_
  refine q_move (v := .int .i64 (j : Int)) rfl rfl ?_
  refine q_move (v := .slice none 0 0) rfl rfl ?_
  refine q_len rfl rfl el49 ?_
  refine q_lss rfl rfl rfl ?_
  refine done ?_
  refine thenN ?_
  refine cond_b rfl (fun h_3 => ?_) (fun h_3 => ?_)
  · skip
    have h_3p := of_decide_eq_true h_3
    exfalso; omega
  · skip
    have h_3p := of_decide_eq_false h_3
    refine wp_exit ?_
    refine thenX ?_
    refine thenX ?_
    refine blkX ?_
    refine thenN ?_
    refine seq ?_
    refine region [true, true, true] ?_
    refine q_move (v := .int .u32 4294967295) rfl rfl ?_
    refine q_un (v := .int .u32 0) rfl rfl (fun _ => rfl) ?_
    refine q_assign (v := .int .u32 0) rfl rfl ?_
    refine done ?_
    refine thenN ?_
    refine wp_ret ?_
    refine ret1v (.int .u32 0) rfl rfl ?_
    exact ⟨z9j, rfl⟩

theorem sum0_c (w : World) {M : Nat → Prop} :
    Calls Tryd.prog 42 (List.toArray [.slice none 0 0]) w (Ret No w fun v _ => v = .int .u32 0) := by
  refine enter (n := 5) [(0, .slice none 0 0)] Tryd.func42 rfl (by kernel_rfl) ?_
  refine seq ?_
  refine region [true] ?_
  refine q_assign (v := .int .u32 0) rfl rfl ?_
  refine done ?_
  refine thenN ?_
  refine seq ?_
  refine region [true, false, true] ?_
  refine q_move (v := .slice none 0 0) rfl rfl ?_
  refine l_call Keep.any rfl (more0_c w (M := No)) en68 rfl rfl (fun v_1 w1 s1 q_2 => ?_)
  have e0_1 : Evo M w w1 := s1.no
  have z1 : Evo No w w1 := s1.no
  obtain rfl := q_2
  refine q_assign (v := .int .u32 0) rfl rfl ?_
  refine done ?_
  refine thenN ?_
  refine wp_ret ?_
  refine ret1v (.int .u32 0) rfl rfl ?_
  exact ⟨z1, rfl⟩

theorem refPairsOk_c {M : Nat → Prop} (w : World) (xs : List (Int × Int)) (a : Option Addr) (n c : Nat) (h : At M w (Sl 2 (xs.map encP) a n c)) (hn : xs.length ≤ 256) (hr : ∀ p ∈ xs, rightP p = true) (hi : incr xs = true) :
    Calls Tryd.prog 70 (List.toArray [.slice a n c]) w (Ret No w fun v _ => v = .int .i64 0) := by
  refine enter (n := 62) [(0, .slice a n c)] Tryd.func70 rfl (by kernel_rfl) ?_
  have hl := h.here.len
  rw [List.length_map] at hl
  have k1 : decide (256 < (n : Int)) = false := decide_eq_false (by omega)
  refine seq ?_
  refine region [true] ?_
  refine q_assign (v := .int .i64 0) rfl rfl ?_
  refine done ?_
  refine thenN ?_
  refine seq ?_
  refine seq ?_
  refine region [true, true, true] ?_
  refine q_move (v := .slice a n c) rfl rfl ?_
  refine q_len rfl rfl el28 ?_
  refine q_gtr rfl rfl rfl ?_
  refine done ?_
  refine thenN ?_
  refine cond_bf rfl k1 ?_
  refine wp_skip ?_
  refine thenN ?_
  refine seq ?_
  refine seq ?_
  refine region [true] ?_
  refine q_assign (v := .int .i64 0) rfl rfl ?_
  refine done ?_
  refine thenN ?_
  refine blk ?_
  refine loopN [8, 9, 10, 11, 14, 15, 16, 17, 18, 19, 20, 21, 22, 23, 24, 25, 26, 27, 28, 29, 2, 12, 13, 3] (fun k9 R9 wJ => ∃ (j : Nat), R9 = [(3, .int .i64 (j : Int))] ∧ (j ≤ n) ∧ (Evo No w wJ) ∧ (Evo No w wJ) ∧ k9 = n - j) ⟨_, _, ⟨0, rfl, Nat.zero_le _, Evo.refl _ _, Evo.refl _ _, rfl⟩, ⟨(by kernel_rfl), trivial⟩⟩ (fun k9 R9 u_1 w1 J_2 => ?_)
  obtain ⟨j, rfl, hj, x9j, z9j, rfl⟩ := J_2
  have e0_1 : Evo M w w1 := x9j.no
  have exj_1 : Evo M w w1 := x9j.no
  have enj_1 : Evo No w w1 := x9j
  refine seq ?_
  refine seq ?_
  refine region [true, true, true, true] ?_
  refine q_move (v := .int .i64 (j : Int)) rfl rfl ?_
  refine q_move (v := .slice a n c) rfl rfl ?_
  refine q_len rfl rfl el28 ?_
  refine q_lss rfl rfl rfl ?_
  refine done ?_
  refine thenN ?_
  refine cond_b rfl (fun h_3 => ?_) (fun h_3 => ?_)
  · skip
    have h_3p := of_decide_eq_true h_3
    refine wp_skip ?_
    refine thenN ?_
    refine seq ?_
    refine blk ?_
    refine seq ?_
    refine region [true, true, true, true, false, false, true, true, true, true, true, true, false, false, true, true] ?_
    refine q_move (v := .slice a n c) rfl rfl ?_
    refine q_move (v := .int .i64 (j : Int)) rfl rfl ?_
    obtain ⟨x_4, hx_4⟩ := Sl.get (xs := xs) h.here (i := (j : Int)) (by omega) (by omega)
    have Ax_4 := Sl.areaAt h (Sl.map_get hx_4)
    refine q_indexS' rfl rfl rfl el28 (h.here.there (by omega)).1 (by omega) (by omega) ?_
    refine q_fieldAddr rfl rfl fl61_0 ?_
    refine l_load trivial rfl rfl pl3 ((Ax_4.now e0_1) 0 _ rfl) ?_
    refine l_call Keep.any rfl (refEpoch_c w1 x_4.1) en93 rfl rfl (fun v_5 w2 s2 q_6 => ?_)
    have e0_2 : Evo M w w2 := e0_1.trans s2.no
    have exj_2 : Evo M w w2 := exj_1.trans s2.no
    have enj_2 : Evo No w w2 := enj_1.trans s2.no
    have z2 : Evo No w w2 := z9j.trans s2.no
    obtain rfl := q_6
    refine q_not rfl rfl ?_
    refine q_move (v := .bool (!(decide (0 ≤ x_4.1) && decide (x_4.1 ≤ 1073741824)))) rfl rfl ?_
    rcases bsplit (!(decide (0 ≤ x_4.1) && decide (x_4.1 ≤ 1073741824))) with h_7 | h_7
    · skip
      have h_7p := h_7
      have h_8 := unT h_7
      have h_8p := h_8
      simp only [Bool.and_eq_true, Bool.or_eq_true, Bool.and_eq_false_iff, Bool.or_eq_false_iff, Bool.not_eq_true', Bool.not_eq_false', decide_eq_true_eq, decide_eq_false_iff_not] at h_8p
      exfalso; have hr1 := hr x_4 (List.mem_of_getElem? hx_4); unfold rightP at hr1; simp at *; omega
    · skip
      have h_7p := h_7
      have h_9 := unF h_7
      have h_9p := h_9
      simp only [Bool.and_eq_true, Bool.or_eq_true, Bool.and_eq_false_iff, Bool.or_eq_false_iff, Bool.not_eq_true', Bool.not_eq_false', decide_eq_true_eq, decide_eq_false_iff_not] at h_9p
      refine q_move (v := .slice a n c) (gff h_7) rfl ?_
      refine q_move (v := .int .i64 (j : Int)) (gff h_7) rfl ?_
      refine q_indexS' (gff h_7) rfl rfl el28 (h.here.there (by omega)).1 (by omega) (by omega) ?_
      refine q_fieldAddr (gff h_7) rfl fl61_1 ?_
      refine l_load trivial (gff h_7) rfl pl2 ((Ax_4.now e0_2) 1 _ rfl) ?_
      refine l_call Keep.any (gff h_7) (refRight_c w2 x_4.2) en66 rfl rfl (fun v_10 w3 s3 q_11 => ?_)
      have e0_3 : Evo M w w3 := e0_2.trans s3.no
      have exj_3 : Evo M w w3 := exj_2.trans s3.no
      have enj_3 : Evo No w w3 := enj_2.trans s3.no
      have z3 : Evo No w w3 := z2.trans s3.no
      obtain rfl := q_11
      refine q_not (gff h_7) rfl ?_
      refine q_pick_bf (v := .bool (!(decide (0 ≤ x_4.2) && decide (x_4.2 ≤ 1099511627776)))) rfl rfl h_7 rfl ?_
      refine done ?_
      refine thenN ?_
      refine cond_b rfl (fun h_12 => ?_) (fun h_12 => ?_)
      · skip
        have h_12p := h_12
        have h_13 := unT h_12
        have h_13p := h_13
        simp only [Bool.and_eq_true, Bool.or_eq_true, Bool.and_eq_false_iff, Bool.or_eq_false_iff, Bool.not_eq_true', Bool.not_eq_false', decide_eq_true_eq, decide_eq_false_iff_not] at h_13p
        exfalso; have hr1 := hr x_4 (List.mem_of_getElem? hx_4); unfold rightP at hr1; simp at *; omega
      · skip
        have h_12p := h_12
        have h_14 := unF h_12
        have h_14p := h_14
        simp only [Bool.and_eq_true, Bool.or_eq_true, Bool.and_eq_false_iff, Bool.or_eq_false_iff, Bool.not_eq_true', Bool.not_eq_false', decide_eq_true_eq, decide_eq_false_iff_not] at h_14p
        refine wp_skip ?_
        refine blkN ?_
        refine thenN ?_
        refine region [true, true, true] ?_
        refine q_move (v := .int .i64 (j : Int)) rfl rfl ?_
        refine q_add rfl rfl rfl (wi64 (by omega) (by omega)) ?_
        refine q_assign (v := .int .i64 ((j : Int) + 1)) rfl rfl ?_
        refine done ?_
        refine thenN ?_
        refine ⟨_, _, ?_, ⟨j + 1, rfl, by omega, enj_3, z3, rfl⟩, Env.near_at 48 (by kernel_rfl) (by kernel_rfl) ⟨(Eq.trans (b := Go.Value.int .i64 ((j : Int) + 1)) (by kernel_rfl) (nextI j)), trivial⟩⟩
        omega
  · skip
    have h_3p := of_decide_eq_false h_3
    refine wp_exit ?_
    refine thenX ?_
    refine thenX ?_
    refine blkX ?_
    refine thenN ?_
    refine seq ?_
    refine seq ?_
    refine region [true] ?_
    refine q_assign (v := .int .i64 1) rfl rfl ?_
    refine done ?_
    refine thenN ?_
    refine blk ?_
    refine loopN [30, 31, 32, 33, 36, 37, 38, 39, 40, 41, 42, 43, 44, 45, 46, 47, 48, 49, 50, 51, 52, 53, 54, 55, 56, 57, 58, 59, 60, 61, 2, 34, 35, 4] (fun k9 R9 wJ => ∃ (i : Nat), R9 = [(4, .int .i64 (i : Int))] ∧ (1 ≤ i) ∧ (i ≤ n + 1) ∧ (Evo No w1 wJ) ∧ (Evo No w wJ) ∧ k9 = n + 1 - i) ⟨_, _, ⟨1, rfl, Nat.le_refl _, by omega, Evo.refl _ _, z9j, rfl⟩, ⟨(by kernel_rfl), trivial⟩⟩ (fun k9 R9 u_15 w2 J_16 => ?_)
    obtain ⟨i, rfl, hi0, hi1, x9i, z9i, rfl⟩ := J_16
    have e0_2 : Evo M w w2 := e0_1.trans x9i.no
    have exj_2 : Evo M w w2 := exj_1.trans x9i.no
    have enj_2 : Evo No w w2 := enj_1.trans x9i.no
    have exi_2 : Evo M w1 w2 := x9i.no
    have eni_2 : Evo No w1 w2 := x9i
    refine seq ?_
    refine seq ?_
    refine region [true, true, true, true] ?_
    refine q_move (v := .int .i64 (i : Int)) rfl rfl ?_
    refine q_move (v := .slice a n c) rfl rfl ?_
    refine q_len rfl rfl el28 ?_
    refine q_lss rfl rfl rfl ?_
    refine done ?_
    refine thenN ?_
    refine cond_b rfl (fun h_17 => ?_) (fun h_17 => ?_)
    · skip
      have h_17p := of_decide_eq_true h_17
      refine wp_skip ?_
      refine thenN ?_
      refine seq ?_
      refine blk ?_
      refine seq ?_
      refine regionD No (.q 0 (.q 1 (.q 2 (.q 3 (.q 4 (.q 5 (.q 6 (.q 7 (.q 8 (.q 9 (.q 10 (.q 11 (.q 12 (.q 13 (.q 14 (.q 15 (.q 16 (.q 17 (.q 18 (.q 19 (.q 20 (.q 21 (.q 22 (.q 23 (.q 24 (.q 25 (.nil))))))))))))))))))))))))))) mixed (by kernel_rfl) (by kernel_rfl) (by kernel_rfl) (fun w3 s3 => ?_)
      have e0_3 : Evo M w w3 := e0_2.trans s3.no
      have exj_3 : Evo M w w3 := exj_2.trans s3.no
      have enj_3 : Evo No w w3 := enj_2.trans s3.no
      have exi_3 : Evo M w1 w3 := exi_2.trans s3.no
      have eni_3 : Evo No w1 w3 := eni_2.trans s3.no
      have z3 : Evo No w w3 := z9i.trans s3.no
      have rgr_18_3 : Evo No w2 w3 := s3.no
      refine q_move (v := .slice a n c) rfl rfl ?_
      refine q_move (v := .int .i64 (i : Int)) rfl rfl ?_
      obtain ⟨x_19, hx_19⟩ := Sl.get (xs := xs) h.here (i := (i : Int)) (by omega) (by omega)
      have Ax_19 := Sl.areaAt h (Sl.map_get hx_19)
      refine q_indexS' rfl rfl rfl el28 (h.here.there (by omega)).1 (by omega) (by omega) ?_
      refine q_fieldAddr rfl rfl fl61_0 ?_
      refine q_load rfl rfl pl3 (fun w0 e0 => (Ax_19.via e0_2 noX) w0 e0 0 _ rfl) ?_
      refine q_move (v := .slice a n c) rfl rfl ?_
      refine q_move (v := .int .i64 (i : Int)) rfl rfl ?_
      refine q_sub rfl rfl rfl (wi64 (by omega) (by omega)) ?_
      obtain ⟨x_20, hx_20⟩ := Sl.get (xs := xs) h.here (i := (i : Int) - 1) (by omega) (by omega)
      have Ax_20 := Sl.areaAt h (Sl.map_get hx_20)
      refine q_indexS' rfl rfl rfl el28 (h.here.there (by omega)).1 (by omega) (by omega) ?_
      refine q_fieldAddr rfl rfl fl61_0 ?_
      refine q_load rfl rfl pl3 (fun w0 e0 => (Ax_20.via e0_2 noX) w0 e0 0 _ rfl) ?_
      refine q_leq rfl rfl rfl ?_
      refine q_move (v := .bool (decide (x_19.1 ≤ x_20.1))) rfl rfl ?_
      rcases bsplit (decide (x_19.1 ≤ x_20.1)) with h_21 | h_21
      · skip
        have h_21p := of_decide_eq_true h_21
        exfalso; have hr1 := incr_at xs (i - 1) x_20 x_19 hi (by rw [← show ((i : Int) - 1).toNat = i - 1 from by omega]; exact hx_20) (by rw [show i - 1 + 1 = i from by omega]; exact hx_19); omega
      · skip
        have h_21p := of_decide_eq_false h_21
        refine q_move (v := .slice a n c) (gff h_21) rfl ?_
        refine q_move (v := .int .i64 (i : Int)) (gff h_21) rfl ?_
        refine q_indexS' (gff h_21) rfl rfl el28 (h.here.there (by omega)).1 (by omega) (by omega) ?_
        refine q_fieldAddr (gff h_21) rfl fl61_1 ?_
        refine q_load (gff h_21) rfl pl2 (fun w0 e0 => (Ax_19.via e0_2 noX) w0 e0 1 _ rfl) ?_
        refine q_move (v := .slice a n c) (gff h_21) rfl ?_
        refine q_move (v := .int .i64 (i : Int)) (gff h_21) rfl ?_
        refine q_sub (gff h_21) rfl rfl (wi64 (by omega) (by omega)) ?_
        refine q_indexS' (gff h_21) rfl rfl el28 (h.here.there (by omega)).1 (by omega) (by omega) ?_
        refine q_fieldAddr (gff h_21) rfl fl61_1 ?_
        refine q_load (gff h_21) rfl pl2 (fun w0 e0 => (Ax_20.via e0_2 noX) w0 e0 1 _ rfl) ?_
        refine q_leq (gff h_21) rfl rfl ?_
        refine q_pick_bf (v := .bool (decide (x_19.2 ≤ x_20.2))) rfl rfl h_21 rfl ?_
        refine done ?_
        refine thenN ?_
        refine cond_b rfl (fun h_22 => ?_) (fun h_22 => ?_)
        · skip
          have h_22p := of_decide_eq_true h_22
          exfalso; have hr1 := incr_at xs (i - 1) x_20 x_19 hi (by rw [← show ((i : Int) - 1).toNat = i - 1 from by omega]; exact hx_20) (by rw [show i - 1 + 1 = i from by omega]; exact hx_19); omega
        · skip
          have h_22p := of_decide_eq_false h_22
          refine wp_skip ?_
          refine blkN ?_
          refine thenN ?_
          refine region [true, true, true] ?_
          refine q_move (v := .int .i64 (i : Int)) rfl rfl ?_
          refine q_add rfl rfl rfl (wi64 (by omega) (by omega)) ?_
          refine q_assign (v := .int .i64 ((i : Int) + 1)) rfl rfl ?_
          refine done ?_
          refine thenN ?_
          refine ⟨_, _, ?_, ⟨i + 1, rfl, by omega, by omega, eni_3, z3, rfl⟩, Env.near_at 68 (by kernel_rfl) (by kernel_rfl) ⟨(Eq.trans (b := Go.Value.int .i64 ((i : Int) + 1)) (by kernel_rfl) (nextI i)), trivial⟩⟩
          omega
    · skip
      have h_17p := of_decide_eq_false h_17
      refine wp_exit ?_
      refine thenX ?_
      refine thenX ?_
      refine blkX ?_
      refine thenN ?_
      refine seq ?_
      refine region [true] ?_
      refine q_assign (v := .int .i64 0) rfl rfl ?_
      refine done ?_
      refine thenN ?_
      refine wp_ret ?_
      refine ret1v (.int .i64 0) rfl rfl ?_
      exact ⟨z9i, rfl⟩
end Go.Proofs.YtnkafkikjcgogaaDoor
