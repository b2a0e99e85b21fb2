import Derived.Test.YtnkafkikjcgogaaDoorSxe
import Derived.Test.YtnkafkikjcgogaaDoorF3
import Derived.Test.YtnkafkikjcgogaaDoorProg
import Derived.Test.YtnkafkikjcgogaaDoorMod
import Derived.Test.YtnkafkikjcgogaaDoorVw1
import Derived.Test.YtnkafkikjcgogaaDoorVw2
set_option linter.unusedVariables false
set_option linter.unusedSimpArgs false
set_option maxRecDepth 4000
set_option maxHeartbeats 2000000
namespace Go.Proofs.YtnkafkikjcgogaaDoor
open Go.Sx F3

theorem maniRight_c {M : Nat → Prop} (w : World) (n : Int) :
    Calls Tryd.prog 45 (List.toArray [.int .i64 n]) w (Ret No w fun v _ => v = .bool (right n)) := by
  refine enter (n := 9) [(0, .int .i64 n)] Tryd.func45 rfl (by kernel_rfl) ?_
  refine seq ?_
  refine region [true] ?_
  refine q_assign (v := .bool false) rfl rfl ?_
  refine done ?_
  refine thenN ?_
  refine seq ?_
  refine region [true, true, true, true, true, true, true] ?_
  refine q_move (v := .int .i64 n) rfl rfl ?_
  refine q_geq rfl rfl rfl ?_
  refine q_move (v := .bool (decide (0 ≤ n))) rfl rfl ?_
  rcases bsplit (decide (0 ≤ n)) with h_1 | h_1
  · skip
    have h_1p := of_decide_eq_true h_1
    refine q_move (v := .int .i64 n) (gtt h_1) rfl ?_
    refine q_leq (gtt h_1) rfl rfl ?_
    refine q_pick_bt (v := .bool (decide (n ≤ 1099511627776))) rfl rfl h_1 rfl ?_
    refine q_assign (v := .bool (decide (n ≤ 1099511627776))) rfl rfl ?_
    refine done ?_
    refine thenN ?_
    refine wp_ret ?_
    refine ret1v (.bool (decide (n ≤ 1099511627776))) rfl rfl ?_
    exact ⟨Evo.refl _ _, by simp [right, *]⟩
  · skip
    have h_1p := of_decide_eq_false h_1
    refine q_no (gft h_1) ?_
    refine q_no (gft h_1) ?_
    refine q_pick_bf (v := .bool false) rfl rfl h_1 rfl ?_
    refine q_assign (v := .bool false) rfl rfl ?_
    refine done ?_
    refine thenN ?_
    refine wp_ret ?_
    refine ret1v (.bool false) rfl rfl ?_
    exact ⟨Evo.refl _ _, by simp [right, *]⟩

theorem epochNew_c {M : Nat → Prop} (w : World) (hM : Old M w) (bl : Nat → Addr) (hG : At M w (Gl bl)) (xs : List (Int × Int)) (a : Option Addr) (n c : Nat) (h : At M w (Sl 2 (xs.map encP) a n c)) (hn : n ≤ 1048576) :
    Calls Tryd.prog 46 (List.toArray [.slice a n c]) w (Ret No w fun v w9 => ∃ p9 e9, v = .tuple #[p9, e9] ∧ At M w9 (ErIs bl (epochErr xs) e9)) := by
  refine enter (n := 49) [(0, .slice a n c)] Tryd.func46 rfl (by kernel_rfl) ?_
  refine seq ?_
  refine region [true, true] ?_
  refine q_assign (v := .pointer none) rfl rfl ?_
  refine q_assign (v := .nilIface) rfl rfl ?_
  refine done ?_
  refine thenN ?_
  refine seq ?_
  refine seq ?_
  refine region [true, true, true] ?_
  refine q_move (v := .slice a n c) rfl rfl ?_
  refine q_len rfl rfl el28 ?_
  refine q_gtr rfl rfl rfl ?_
  refine done ?_
  refine thenN ?_
  refine cond_b rfl (fun h_1 => ?_) (fun h_1 => ?_)
  · skip
    have h_1p := of_decide_eq_true h_1
    refine seq ?_
    refine regionD No (.q 0 (.q 1 (.q 2 (.nil)))) mixed (by kernel_rfl) (by kernel_rfl) (by kernel_rfl) (fun w1 s1 => ?_)
    have e0_1 : Evo M w w1 := s1.no
    have z1 : Evo No w w1 := s1.no
    have rgr_2_1 : Evo No w w1 := s1.no
    refine q_load rfl rfl pl34 (fun w0 e0 => (hG.via (Evo.refl _ _) noX w0 e0).cell 2 (by decide)) ?_
    refine q_assign (v := .pointer none) rfl rfl ?_
    refine q_assign (v := sen bl 2) rfl rfl ?_
    refine done ?_
    refine thenN ?_
    refine wp_ret ?_
    refine thenR ?_
    refine ret2v (.pointer none) (sen bl 2) rfl rfl rfl ?_
    exact ⟨z1, _, _, rfl, fun _ _ => by unfold epochErr; rw [if_pos (by have := h.here.len; rw [List.length_map] at this; omega)]; rfl⟩
  · skip
    have h_1p := of_decide_eq_false h_1
    refine wp_skip ?_
    refine thenN ?_
    refine seq ?_
    refine seq ?_
    refine region [true, false] ?_
    refine q_move (v := .slice a n c) rfl rfl ?_
    refine l_call Keep.any rfl (hasPairs_c (M := M) w hM xs a n c (h.on (Evo.refl M _)) (by omega) 74 [] (fun p => !rightP p) en74 (fun x w9 e9 => epochNot_c (M := M) w9 (hM.on (Evo.trans (Evo.refl No _) e9)) x)) en73 rfl rfl (fun v_3 w1 s1 q_4 => ?_)
    have e0_1 : Evo M w w1 := s1.no
    have z1 : Evo No w w1 := s1.no
    obtain rfl := q_4
    refine done ?_
    refine thenN ?_
    refine cond_b rfl (fun h_5 => ?_) (fun h_5 => ?_)
    · skip
      refine seq ?_
      refine regionD No (.q 0 (.q 1 (.q 2 (.nil)))) mixed (by kernel_rfl) (by kernel_rfl) (by kernel_rfl) (fun w2 s2 => ?_)
      have e0_2 : Evo M w w2 := e0_1.trans s2.no
      have z2 : Evo No w w2 := z1.trans s2.no
      have rgr_6_2 : Evo No w1 w2 := s2.no
      refine q_load rfl rfl pl34 (fun w0 e0 => (hG.via e0_1 noX w0 e0).cell 4 (by decide)) ?_
      refine q_assign (v := .pointer none) rfl rfl ?_
      refine q_assign (v := sen bl 4) rfl rfl ?_
      refine done ?_
      refine thenN ?_
      refine wp_ret ?_
      refine thenR ?_
      refine ret2v (.pointer none) (sen bl 4) rfl rfl rfl ?_
      exact ⟨z2, _, _, rfl, fun _ _ => by unfold epochErr; rw [if_neg (by have := h.here.len; rw [List.length_map] at this; omega), if_pos h_5]; rfl⟩
    · skip
      refine wp_skip ?_
      refine thenN ?_
      refine seq ?_
      refine seq ?_
      refine region [true] ?_
      refine q_assign (v := .int .i64 1) rfl rfl ?_
      refine done ?_
      refine thenN ?_
      refine blk ?_
      have hl := h.here.len
      rw [List.length_map] at hl
      refine loopN [12, 13, 14, 15, 18, 19, 20, 21, 22, 23, 24, 25, 26, 27, 28, 29, 30, 31, 32, 33, 34, 35, 36, 37, 38, 39, 40, 41, 42, 43, 44, 2, 3, 16, 17, 4] (fun k9 R9 wJ => ∃ (j : Nat), R9 = [(4, .int .i64 (j : Int))] ∧ (1 ≤ j) ∧ (j ≤ n + 1) ∧ (incr (xs.drop (j - 1)) = incr xs) ∧ (Evo No w wJ) ∧ k9 = n + 1 - j) ⟨_, _, ⟨1, rfl, Nat.le_refl _, by omega, rfl, z1, rfl⟩, ⟨(by kernel_rfl), trivial⟩⟩ (fun k9 R9 u_7 w2 J_8 => ?_)
      obtain ⟨j, rfl, hj, hj2, hp, z9, rfl⟩ := J_8
      have e0_2 : Evo M w w2 := z9.no
      refine seq ?_
      refine seq ?_
      refine region [true, true, true, true] ?_
      refine q_move (v := .int .i64 (j : Int)) rfl rfl ?_
      refine q_move (v := .slice a n c) rfl rfl ?_
      refine q_len rfl rfl el28 ?_
      refine q_lss rfl rfl rfl ?_
      refine done ?_
      refine thenN ?_
      refine cond_b rfl (fun h_9 => ?_) (fun h_9 => ?_)
      · skip
        have h_9p := of_decide_eq_true h_9
        refine wp_skip ?_
        refine thenN ?_
        refine seq ?_
        refine blk ?_
        refine seq ?_
        refine regionD No (.q 0 (.q 1 (.q 2 (.q 3 (.q 4 (.q 5 (.q 6 (.q 7 (.q 8 (.q 9 (.q 10 (.q 11 (.q 12 (.q 13 (.q 14 (.q 15 (.q 16 (.q 17 (.q 18 (.q 19 (.q 20 (.q 21 (.q 22 (.q 23 (.q 24 (.q 25 (.nil))))))))))))))))))))))))))) mixed (by kernel_rfl) (by kernel_rfl) (by kernel_rfl) (fun w3 s3 => ?_)
        have e0_3 : Evo M w w3 := e0_2.trans s3.no
        have z3 : Evo No w w3 := z9.trans s3.no
        have rgr_10_3 : Evo No w2 w3 := s3.no
        refine q_move (v := .slice a n c) rfl rfl ?_
        refine q_move (v := .int .i64 (j : Int)) rfl rfl ?_
        obtain ⟨x_11, hx_11⟩ := Sl.get (xs := xs) h.here (i := (j : Int)) (by omega) (by omega)
        have Ax_11 := Sl.areaAt h (Sl.map_get hx_11)
        refine q_indexS' rfl rfl rfl el28 (h.here.there (by omega)).1 (by omega) (by omega) ?_
        refine q_fieldAddr rfl rfl fl61_0 ?_
        refine q_load rfl rfl pl3 (fun w0 e0 => (Ax_11.via e0_2 noX) w0 e0 0 _ rfl) ?_
        refine q_move (v := .slice a n c) rfl rfl ?_
        refine q_move (v := .int .i64 (j : Int)) rfl rfl ?_
        refine q_sub rfl rfl rfl (wi64 (by omega) (by omega)) ?_
        obtain ⟨x_12, hx_12⟩ := Sl.get (xs := xs) h.here (i := (j : Int) - 1) (by omega) (by omega)
        have Ax_12 := Sl.areaAt h (Sl.map_get hx_12)
        refine q_indexS' rfl rfl rfl el28 (h.here.there (by omega)).1 (by omega) (by omega) ?_
        refine q_fieldAddr rfl rfl fl61_0 ?_
        refine q_load rfl rfl pl3 (fun w0 e0 => (Ax_12.via e0_2 noX) w0 e0 0 _ rfl) ?_
        refine q_leq rfl rfl rfl ?_
        refine q_move (v := .bool (decide (x_11.1 ≤ x_12.1))) rfl rfl ?_
        rcases bsplit (decide (x_11.1 ≤ x_12.1)) with h_13 | h_13
        · skip
          have h_13p := of_decide_eq_true h_13
          refine q_no (gtf h_13) ?_
          refine q_no (gtf h_13) ?_
          refine q_no (gtf h_13) ?_
          refine q_no (gtf h_13) ?_
          refine q_no (gtf h_13) ?_
          refine q_no (gtf h_13) ?_
          refine q_no (gtf h_13) ?_
          refine q_no (gtf h_13) ?_
          refine q_no (gtf h_13) ?_
          refine q_no (gtf h_13) ?_
          refine q_no (gtf h_13) ?_
          refine q_no (gtf h_13) ?_
          refine q_pick_bt (v := .bool true) rfl rfl h_13 rfl ?_
          refine done ?_
          refine thenN ?_
          refine cond_t rfl ?_
          refine seq ?_
          refine regionD No (.q 0 (.q 1 (.q 2 (.nil)))) mixed (by kernel_rfl) (by kernel_rfl) (by kernel_rfl) (fun w4 s4 => ?_)
          have e0_4 : Evo M w w4 := e0_3.trans s4.no
          have z4 : Evo No w w4 := z3.trans s4.no
          have rgr_14_4 : Evo No w3 w4 := s4.no
          refine q_load rfl rfl pl34 (fun w0 e0 => (hG.via e0_3 noX w0 e0).cell 3 (by decide)) ?_
          refine q_assign (v := .pointer none) rfl rfl ?_
          refine q_assign (v := sen bl 3) rfl rfl ?_
          refine done ?_
          refine thenN ?_
          refine wp_ret ?_
          refine blkR ?_
          refine thenR ?_
          refine thenR ?_
          refine blkR ?_
          refine thenR ?_
          refine ret2v (.pointer none) (sen bl 3) rfl rfl rfl ?_
          have hd0 : xs[j - 1]? = some x_12 := by rw [← show ((j : Int) - 1).toNat = j - 1 from by omega]; exact hx_12
          have hd1 : xs[j - 1 + 1]? = some x_11 := by rw [show j - 1 + 1 = j from by omega]; exact hx_11
          have hd : xs.drop (j - 1) = x_12 :: x_11 :: xs.drop (j - 1 + 1 + 1) := by rw [drop_cons hd0, drop_cons hd1]
          have hd2 : xs.drop j = x_11 :: xs.drop (j - 1 + 1 + 1) := by rw [← drop_cons hd1, show j - 1 + 1 = j from by omega]
          have hi : incr xs = false := by rw [← hp, hd]; simp only [incr, Bool.and_eq_false_iff, decide_eq_false_iff_not]; omega
          exact ⟨z4, _, _, rfl, fun _ _ => by unfold epochErr; rw [if_neg (by omega), show (xs.any fun p => !rightP p) = false from h_5, if_neg (by simp), if_neg (by rw [hi]; simp)]; rfl⟩
        · skip
          have h_13p := of_decide_eq_false h_13
          refine q_move (v := .slice a n c) (gff h_13) rfl ?_
          refine q_move (v := .int .i64 (j : Int)) (gff h_13) rfl ?_
          refine q_indexS' (gff h_13) rfl rfl el28 (h.here.there (by omega)).1 (by omega) (by omega) ?_
          refine q_fieldAddr (gff h_13) rfl fl61_1 ?_
          refine q_load (gff h_13) rfl pl2 (fun w0 e0 => (Ax_11.via e0_2 noX) w0 e0 1 _ rfl) ?_
          refine q_move (v := .slice a n c) (gff h_13) rfl ?_
          refine q_move (v := .int .i64 (j : Int)) (gff h_13) rfl ?_
          refine q_sub (gff h_13) rfl rfl (wi64 (by omega) (by omega)) ?_
          refine q_indexS' (gff h_13) rfl rfl el28 (h.here.there (by omega)).1 (by omega) (by omega) ?_
          refine q_fieldAddr (gff h_13) rfl fl61_1 ?_
          refine q_load (gff h_13) rfl pl2 (fun w0 e0 => (Ax_12.via e0_2 noX) w0 e0 1 _ rfl) ?_
          refine q_leq (gff h_13) rfl rfl ?_
          refine q_pick_bf (v := .bool (decide (x_11.2 ≤ x_12.2))) rfl rfl h_13 rfl ?_
          refine done ?_
          refine thenN ?_
          refine cond_b rfl (fun h_15 => ?_) (fun h_15 => ?_)
          · skip
            have h_15p := of_decide_eq_true h_15
            refine seq ?_
            refine regionD No (.q 0 (.q 1 (.q 2 (.nil)))) mixed (by kernel_rfl) (by kernel_rfl) (by kernel_rfl) (fun w4 s4 => ?_)
            have e0_4 : Evo M w w4 := e0_3.trans s4.no
            have z4 : Evo No w w4 := z3.trans s4.no
            have rgr_16_4 : Evo No w3 w4 := s4.no
            refine q_load rfl rfl pl34 (fun w0 e0 => (hG.via e0_3 noX w0 e0).cell 3 (by decide)) ?_
            refine q_assign (v := .pointer none) rfl rfl ?_
            refine q_assign (v := sen bl 3) rfl rfl ?_
            refine done ?_
            refine thenN ?_
            refine wp_ret ?_
            refine blkR ?_
            refine thenR ?_
            refine thenR ?_
            refine blkR ?_
            refine thenR ?_
            refine ret2v (.pointer none) (sen bl 3) rfl rfl rfl ?_
            have hd0 : xs[j - 1]? = some x_12 := by rw [← show ((j : Int) - 1).toNat = j - 1 from by omega]; exact hx_12
            have hd1 : xs[j - 1 + 1]? = some x_11 := by rw [show j - 1 + 1 = j from by omega]; exact hx_11
            have hd : xs.drop (j - 1) = x_12 :: x_11 :: xs.drop (j - 1 + 1 + 1) := by rw [drop_cons hd0, drop_cons hd1]
            have hd2 : xs.drop j = x_11 :: xs.drop (j - 1 + 1 + 1) := by rw [← drop_cons hd1, show j - 1 + 1 = j from by omega]
            have hi : incr xs = false := by rw [← hp, hd]; simp only [incr, Bool.and_eq_false_iff, decide_eq_false_iff_not]; omega
            exact ⟨z4, _, _, rfl, fun _ _ => by unfold epochErr; rw [if_neg (by omega), show (xs.any fun p => !rightP p) = false from h_5, if_neg (by simp), if_neg (by rw [hi]; simp)]; rfl⟩
          · skip
            have h_15p := of_decide_eq_false h_15
            refine wp_skip ?_
            refine blkN ?_
            refine thenN ?_
            refine region [true, true, true] ?_
            refine q_move (v := .int .i64 (j : Int)) rfl rfl ?_
            refine q_add rfl rfl rfl (wi64 (by omega) (by omega)) ?_
            refine q_assign (v := .int .i64 ((j : Int) + 1)) rfl rfl ?_
            refine done ?_
            refine thenN ?_
            have hd0 : xs[j - 1]? = some x_12 := by rw [← show ((j : Int) - 1).toNat = j - 1 from by omega]; exact hx_12
            have hd1 : xs[j - 1 + 1]? = some x_11 := by rw [show j - 1 + 1 = j from by omega]; exact hx_11
            have hd : xs.drop (j - 1) = x_12 :: x_11 :: xs.drop (j - 1 + 1 + 1) := by rw [drop_cons hd0, drop_cons hd1]
            have hd2 : xs.drop j = x_11 :: xs.drop (j - 1 + 1 + 1) := by rw [← drop_cons hd1, show j - 1 + 1 = j from by omega]
            refine ⟨_, _, ?_, ⟨j + 1, rfl, by omega, by omega, by show incr (xs.drop j) = incr xs; have q1 : x_12.1 < x_11.1 := (by omega); have q2 : x_12.2 < x_11.2 := (by omega); rw [← hp, hd, hd2]; simp [incr, q1, q2], z3, rfl⟩, Env.near_at 70 (by kernel_rfl) (by kernel_rfl) ⟨(Eq.trans (b := Go.Value.int .i64 ((j : Int) + 1)) (by kernel_rfl) (nextI j)), trivial⟩⟩
            omega
      · skip
        have h_9p := of_decide_eq_false h_9
        refine wp_exit ?_
        refine thenX ?_
        refine thenX ?_
        refine blkX ?_
        refine thenN ?_
        refine seq ?_
        refine region [true, false, true, false, true, true] ?_
        refine q_move (v := .slice a n c) rfl rfl ?_
        refine l_call Keep.any rfl (clonePairs_c (M := M) w2 (hM.on z9) _ a n c (h.on e0_2) (by omega)) en50 rfl rfl (fun v_20 w3 s3 q_21 => ?_)
        have e0_3 : Evo M w w3 := e0_2.trans s3.no
        have z3 : Evo No w w3 := z9.trans s3.no
        obtain ⟨a_17, c_18, rfl, r_19⟩ := q_21
        refine q_build (.agg (List.toArray [.slice a_17 n c_18])) rfl rfl (fun _ => by kernel_rfl) ?_
        refine l_box (M := M) Keep.any (hM.on z3) rfl rfl (fun k_22 w4 s4 fk_22 nk_22 => ?_)
        have e0_4 : Evo M w w4 := e0_3.trans s4.no
        have e3_4 : Evo M w3 w4 := s4.no
        have z4 : Evo No w w4 := z3.trans s4.no
        refine q_assign (v := .pointer (some ⟨k_22, 0, none⟩)) rfl rfl ?_
        refine q_assign (v := .nilIface) rfl rfl ?_
        refine done ?_
        refine thenN ?_
        refine wp_ret ?_
        refine ret2v (.pointer (some ⟨k_22, 0, none⟩)) (.nilIface) rfl rfl rfl ?_
        have hi : incr xs = true := by rw [← hp]; rcases hq : xs.drop (j - 1) with _ | ⟨x, _ | ⟨y, l⟩⟩ <;> first | rfl | (have := congrArg List.length hq; simp at this; omega)
        exact ⟨z4, _, _, rfl, fun _ _ => by unfold epochErr; rw [if_neg (by omega), show (xs.any fun p => !rightP p) = false from h_5, if_neg (by simp), if_pos hi]; rfl⟩

theorem sameName_c {M : Nat → Prop} (w : World) (hM : Old M w) (x o : Obj) (k t : Nat) (hk : Blk k (encO o) t w) :
    Calls Tryd.prog 78 (List.toArray [.agg (encO x).toArray, .pointer (some ⟨k, 0, none⟩)]) w (Ret No w fun v _ => v = .bool (decide (x.name = o.name))) := by
  refine enter (n := 9) [(0, .agg (List.toArray [.string x.name, .int .i64 x.len, .int .u32 x.sum])), (1, .pointer (some ⟨k, 0, none⟩))] Tryd.func78 rfl (by kernel_rfl) ?_
  refine seq ?_
  refine region [false, true] ?_
  refine l_box (M := M) Keep.any hM rfl rfl (fun k_1 w1 s1 fk_1 nk_1 => ?_)
  have e0_1 : Evo M w w1 := s1.no
  have z1 : Evo No w w1 := s1.no
  have c_2 := hk.no s1
  refine q_assign (v := .bool false) rfl rfl ?_
  refine done ?_
  refine thenN ?_
  refine seq ?_
  refine region [true, false, true, false, true, true] ?_
  refine q_fieldAddr rfl rfl fl46_0 ?_
  refine l_loadB trivial rfl rfl pl9 (fk_1.now (Evo.refl M _)) rfl ?_
  refine q_fieldAddr rfl rfl fl46_0 ?_
  refine l_loadB trivial rfl rfl pl9 c_2 rfl ?_
  refine q_strEql rfl rfl rfl ?_
  refine q_assign (v := .bool (decide (x.name = o.name))) rfl rfl ?_
  refine done ?_
  refine thenN ?_
  refine wp_ret ?_
  refine ret1v (.bool (decide (x.name = o.name))) rfl rfl ?_
  exact ⟨z1, rfl⟩

theorem maniObjects_c {M : Nat → Prop} (w : World) (hM : Old M w) (bl : Nat → Addr) (hG : At M w (Gl bl)) (xs : List Obj) (a : Option Addr) (n c : Nat) (h : At M w (Sl 3 (xs.map encO) a n c)) (hn : n ≤ 1048576) :
    Calls Tryd.prog 47 (List.toArray [.slice a n c]) w (Ret No w fun v w9 => At M w9 (ErIs bl (objsErr xs) v)) := by
  refine enter (n := 60) [(0, .slice a n c)] Tryd.func47 rfl (by kernel_rfl) ?_
  have hl := h.here.len
  rw [List.length_map] at hl
  refine seq ?_
  refine region [true] ?_
  refine q_assign (v := .nilIface) rfl rfl ?_
  refine done ?_
  refine thenN ?_
  refine seq ?_
  refine seq ?_
  refine region [true, true, true, true, true, true, true, true] ?_
  refine q_move (v := .slice a n c) rfl rfl ?_
  refine q_len rfl rfl el29 ?_
  refine q_lss rfl rfl rfl ?_
  refine q_move (v := .bool (decide ((n : Int) < 1))) rfl rfl ?_
  rcases bsplit (decide ((n : Int) < 1)) with h_1 | h_1
  · skip
    have h_1p := of_decide_eq_true h_1
    refine q_no (gtf h_1) ?_
    refine q_no (gtf h_1) ?_
    refine q_no (gtf h_1) ?_
    refine q_pick_bt (v := .bool true) rfl rfl h_1 rfl ?_
    refine done ?_
    refine thenN ?_
    refine cond_t rfl ?_
    refine seq ?_
    refine region [false, true] ?_
    refine l_load trivial rfl rfl pl34 ((hG.now (Evo.refl M _)).cell 2 (by decide)) ?_
    refine q_assign (v := sen bl 2) rfl rfl ?_
    refine done ?_
    refine thenN ?_
    refine wp_ret ?_
    refine thenR ?_
    refine ret1v (sen bl 2) rfl rfl ?_
    exact ⟨Evo.refl _ _, fun _ _ => by unfold objsErr; rw [if_pos (by omega)]; rfl⟩
  · skip
    have h_1p := of_decide_eq_false h_1
    refine q_move (v := .slice a n c) (gff h_1) rfl ?_
    refine q_len (gff h_1) rfl el29 ?_
    refine q_gtr (gff h_1) rfl rfl ?_
    refine q_pick_bf (v := .bool (decide (8 < (n : Int)))) rfl rfl h_1 rfl ?_
    refine done ?_
    refine thenN ?_
    refine cond_b rfl (fun h_2 => ?_) (fun h_2 => ?_)
    · skip
      have h_2p := of_decide_eq_true h_2
      refine seq ?_
      refine region [false, true] ?_
      refine l_load trivial rfl rfl pl34 ((hG.now (Evo.refl M _)).cell 2 (by decide)) ?_
      refine q_assign (v := sen bl 2) rfl rfl ?_
      refine done ?_
      refine thenN ?_
      refine wp_ret ?_
      refine thenR ?_
      refine ret1v (sen bl 2) rfl rfl ?_
      exact ⟨Evo.refl _ _, fun _ _ => by unfold objsErr; rw [if_pos (by omega)]; rfl⟩
    · skip
      have h_2p := of_decide_eq_false h_2
      refine wp_skip ?_
      refine thenN ?_
      refine seq ?_
      refine seq ?_
      refine region [true, true, true] ?_
      refine q_move (v := .slice a n c) rfl rfl ?_
      refine q_len rfl rfl el29 ?_
      refine q_move (v := .int .i64 0) rfl rfl ?_
      refine done ?_
      refine thenN ?_
      refine blk ?_
      refine loopN [19, 20, 21, 22, 4, 3, 23, 24, 25, 26, 27, 28, 29, 30, 31, 2, 32, 33, 34, 35, 36, 37, 38, 39, 40, 41, 42, 43, 44, 45, 18] (fun k9 R9 wJ => ∃ (j : Nat), R9 = [(18, .int .i64 (j : Int))] ∧ (j ≤ n) ∧ (objsBad j (xs.drop j) = objsBad 0 xs) ∧ (Evo No w wJ) ∧ k9 = n - j) ⟨_, _, ⟨0, rfl, Nat.zero_le _, by simp, Evo.refl _ _, rfl⟩, ⟨(by kernel_rfl), trivial⟩⟩ (fun k9 R9 u_3 w1 J_4 => ?_)
      obtain ⟨j, rfl, hj, hq, z9, rfl⟩ := J_4
      have e0_1 : Evo M w w1 := z9.no
      refine seq ?_
      refine region [true] ?_
      refine q_lss rfl rfl rfl ?_
      refine done ?_
      refine thenN ?_
      refine seq ?_
      refine cond_b rfl (fun h_5 => ?_) (fun h_5 => ?_)
      · skip
        have h_5p := of_decide_eq_true h_5
        refine wp_skip ?_
        refine thenN ?_
        refine seq ?_
        refine blk ?_
        refine seq ?_
        refine region [true, true, false, false, true, false] ?_
        refine q_move (v := .int .i64 (j : Int)) rfl rfl ?_
        obtain ⟨x_6, hx_6⟩ := Sl.get (xs := xs) h.here (i := (j : Int)) (by omega) (by omega)
        have Ax_6 := Sl.areaAt h (Sl.map_get hx_6)
        refine q_indexS' rfl rfl rfl el29 (h.here.there (by omega)).1 (by omega) (by omega) ?_
        refine l_loadN trivial rfl rfl ag46 rfl (Ax_6.now e0_1) ?_
        refine l_alloc (M := M) Keep.any (hM.on z9) rfl ze46 (fun k_7 w2 s2 ck_7 nk_7 ok_7 => ?_)
        have lk_7_0 : w.heap.size ≤ k_7 := Nat.le_trans e0_1.size nk_7
        have lk_7_w : w.heap.size ≤ k_7 := Nat.le_trans z9.size nk_7
        have e0_2 : Evo M w w2 := e0_1.trans s2.no
        have z2 : Evo No w w2 := z9.trans s2.no
        have hlk_7 := ck_7.lt
        refine q_assign (v := .int .i64 (j : Int)) rfl rfl ?_
        refine l_store Keep.any rfl rfl ck_7 rfl sz46 rfl (Nat.le_of_ble_eq_true rfl) rfl (cs' := [.string x_6.name, .int .i64 x_6.len, .int .u32 x_6.sum]) rfl (fun w3 s3 c_8 => ?_)
        have e0_3 : Evo M w w3 := e0_2.fresh s3 lk_7_0
        have z3 : Evo No w w3 := z2.fresh s3 lk_7_w
        refine done ?_
        refine thenN ?_
        refine seq ?_
        refine seq ?_
        refine region [true, false, false, true] ?_
        refine q_fieldAddr rfl rfl fl46_0 ?_
        refine l_loadB trivial rfl rfl pl9 c_8 rfl ?_
        refine l_call Keep.any rfl (nameValid_c (M := M) w3 x_6.name) en76 rfl rfl (fun v_9 w4 s4 q_10 => ?_)
        have e0_4 : Evo M w w4 := e0_3.trans s4.no
        have z4 : Evo No w w4 := z3.trans s4.no
        have c_11 := c_8.no s4
        obtain rfl := q_10
        refine q_not rfl rfl ?_
        refine done ?_
        refine thenN ?_
        refine cond_b rfl (fun h_12 => ?_) (fun h_12 => ?_)
        · skip
          have h_13 := unT h_12
          refine seq ?_
          refine region [true, false, true, false, true, true] ?_
          refine q_move (v := .int .i64 (j : Int)) rfl rfl ?_
          refine l_load trivial rfl rfl pl34 ((hG.now e0_4).cell 5 (by decide)) ?_
          refine q_build (.agg (List.toArray [.int .i64 (j : Int), sen bl 5])) rfl rfl (fun _ => by kernel_rfl) ?_
          refine l_box (M := M) Keep.any (hM.on z4) rfl rfl (fun k_14 w5 s5 fk_14 nk_14 => ?_)
          have e0_5 : Evo M w w5 := e0_4.trans s5.no
          have z5 : Evo No w w5 := z4.trans s5.no
          have c_15 := c_11.no s5
          refine q_makeInterface (v := .pointer (some ⟨k_14, 0, none⟩)) rfl rfl ni119 ?_
          refine q_assign (v := .iface 119 (.pointer (some ⟨k_14, 0, none⟩))) rfl rfl ?_
          refine done ?_
          refine thenN ?_
          refine wp_ret ?_
          refine thenR ?_
          refine blkR ?_
          refine thenR ?_
          refine thenR ?_
          refine blkR ?_
          refine thenR ?_
          refine ret1v (.iface 119 (.pointer (some ⟨k_14, 0, none⟩))) rfl rfl ?_
          have hob : objsBad 0 xs = .at_ j 5 := by rw [← hq, drop_cons (i := j) hx_6]; simp only [objsBad]; rw [if_neg (by simp [*])]
          have hr := fk_14.on (Evo.refl M _)
          exact ⟨z5, fun w9 e9 => by unfold objsErr; rw [if_neg (by omega)]; rw [hob]; exact ⟨_, rfl, hr w9 e9⟩⟩
        · skip
          have h_16 := unF h_12
          refine wp_skip ?_
          refine thenN ?_
          refine seq ?_
          refine region [true, false, true, true, true, false, true, true] ?_
          refine q_fieldAddr rfl rfl fl46_1 ?_
          refine l_loadB trivial rfl rfl pl3 c_11 rfl ?_
          refine q_lss rfl rfl rfl ?_
          refine q_move (v := .bool (decide (x_6.len < 0))) rfl rfl ?_
          rcases bsplit (decide (x_6.len < 0)) with h_17 | h_17
          · skip
            have h_17p := of_decide_eq_true h_17
            refine q_no (gtf h_17) ?_
            refine l_no (gtf h_17) ?_
            refine q_no (gtf h_17) ?_
            refine q_pick_bt (v := .bool true) rfl rfl h_17 rfl ?_
            refine done ?_
            refine thenN ?_
            refine cond_t rfl ?_
            refine seq ?_
            refine region [true, false, true, false, true, true] ?_
            refine q_move (v := .int .i64 (j : Int)) rfl rfl ?_
            refine l_load trivial rfl rfl pl34 ((hG.now e0_4).cell 4 (by decide)) ?_
            refine q_build (.agg (List.toArray [.int .i64 (j : Int), sen bl 4])) rfl rfl (fun _ => by kernel_rfl) ?_
            refine l_box (M := M) Keep.any (hM.on z4) rfl rfl (fun k_18 w5 s5 fk_18 nk_18 => ?_)
            have e0_5 : Evo M w w5 := e0_4.trans s5.no
            have z5 : Evo No w w5 := z4.trans s5.no
            have c_19 := c_11.no s5
            refine q_makeInterface (v := .pointer (some ⟨k_18, 0, none⟩)) rfl rfl ni119 ?_
            refine q_assign (v := .iface 119 (.pointer (some ⟨k_18, 0, none⟩))) rfl rfl ?_
            refine done ?_
            refine thenN ?_
            refine wp_ret ?_
            refine blkR ?_
            refine thenR ?_
            refine thenR ?_
            refine blkR ?_
            refine thenR ?_
            refine ret1v (.iface 119 (.pointer (some ⟨k_18, 0, none⟩))) rfl rfl ?_
            have hob : objsBad 0 xs = .at_ j 4 := by rw [← hq, drop_cons (i := j) hx_6]; simp only [objsBad]; rw [if_pos h_16, if_pos (by omega)]
            have hr := fk_18.on (Evo.refl M _)
            exact ⟨z5, fun w9 e9 => by unfold objsErr; rw [if_neg (by omega)]; rw [hob]; exact ⟨_, rfl, hr w9 e9⟩⟩
          · skip
            have h_17p := of_decide_eq_false h_17
            refine q_fieldAddr (gff h_17) rfl fl46_1 ?_
            refine l_loadB trivial (gff h_17) rfl pl3 c_11 rfl ?_
            refine q_gtr (gff h_17) rfl rfl ?_
            refine q_pick_bf (v := .bool (decide (1073741824 < x_6.len))) rfl rfl h_17 rfl ?_
            refine done ?_
            refine thenN ?_
            refine cond_b rfl (fun h_20 => ?_) (fun h_20 => ?_)
            · skip
              have h_20p := of_decide_eq_true h_20
              refine seq ?_
              refine region [true, false, true, false, true, true] ?_
              refine q_move (v := .int .i64 (j : Int)) rfl rfl ?_
              refine l_load trivial rfl rfl pl34 ((hG.now e0_4).cell 4 (by decide)) ?_
              refine q_build (.agg (List.toArray [.int .i64 (j : Int), sen bl 4])) rfl rfl (fun _ => by kernel_rfl) ?_
              refine l_box (M := M) Keep.any (hM.on z4) rfl rfl (fun k_21 w5 s5 fk_21 nk_21 => ?_)
              have e0_5 : Evo M w w5 := e0_4.trans s5.no
              have z5 : Evo No w w5 := z4.trans s5.no
              have c_22 := c_11.no s5
              refine q_makeInterface (v := .pointer (some ⟨k_21, 0, none⟩)) rfl rfl ni119 ?_
              refine q_assign (v := .iface 119 (.pointer (some ⟨k_21, 0, none⟩))) rfl rfl ?_
              refine done ?_
              refine thenN ?_
              refine wp_ret ?_
              refine blkR ?_
              refine thenR ?_
              refine thenR ?_
              refine blkR ?_
              refine thenR ?_
              refine ret1v (.iface 119 (.pointer (some ⟨k_21, 0, none⟩))) rfl rfl ?_
              have hob : objsBad 0 xs = .at_ j 4 := by rw [← hq, drop_cons (i := j) hx_6]; simp only [objsBad]; rw [if_pos h_16, if_pos (by omega)]
              have hr := fk_21.on (Evo.refl M _)
              exact ⟨z5, fun w9 e9 => by unfold objsErr; rw [if_neg (by omega)]; rw [hob]; exact ⟨_, rfl, hr w9 e9⟩⟩
            · skip
              have h_20p := of_decide_eq_false h_20
              refine wp_skip ?_
              refine blkN ?_
              refine thenN ?_
              refine region [true, true] ?_
              refine q_add rfl rfl rfl (wi64 (by omega) (by omega)) ?_
              refine q_move (v := .int .i64 ((j : Int) + 1)) rfl rfl ?_
              refine done ?_
              refine thenN ?_
              have hb : objsBad j (xs.drop j) = objsBad (j + 1 : Nat) (xs.drop (j + 1)) := by rw [drop_cons (i := j) hx_6]; simp only [objsBad]; rw [if_pos h_16, if_neg (by omega)]; simp
              refine ⟨_, _, ?_, ⟨j + 1, rfl, by omega, by rw [← hq, hb], z4, rfl⟩, Env.near_at 52 (by kernel_rfl) (by kernel_rfl) ⟨(Eq.trans (b := Go.Value.int .i64 ((j : Int) + 1)) (by kernel_rfl) (nextI j)), trivial⟩⟩
              omega
      · skip
        have h_5p := of_decide_eq_false h_5
        refine wp_exit ?_
        refine thenX ?_
        refine thenX ?_
        refine blkX ?_
        refine thenN ?_
        refine seq ?_
        refine seq ?_
        refine region [true, true, true] ?_
        refine q_move (v := .slice a n c) rfl rfl ?_
        refine q_len rfl rfl el29 ?_
        refine q_move (v := .int .i64 0) rfl rfl ?_
        refine done ?_
        refine thenN ?_
        refine blk ?_
        have hob : objsBad 0 xs = .ok := by rw [← hq, List.drop_eq_nil_of_le (by omega)]; rfl
        refine loopN [49, 50, 51, 52, 6, 5, 53, 54, 55, 56, 57, 58, 2, 59, 48] (fun k9 R9 wJ => ∃ (i : Nat), R9 = [(48, .int .i64 (i : Int))] ∧ (i ≤ n) ∧ (dupFrom (xs.take i) (xs.drop i) = dupFrom [] xs) ∧ (Evo No w wJ) ∧ k9 = n - i) ⟨_, _, ⟨0, rfl, Nat.zero_le _, by simp, z9, rfl⟩, ⟨(by kernel_rfl), trivial⟩⟩ (fun k9 R9 u_23 w2 J_24 => ?_)
        obtain ⟨i, rfl, hi, hd, z9i, rfl⟩ := J_24
        have e0_2 : Evo M w w2 := z9i.no
        refine seq ?_
        refine region [true] ?_
        refine q_lss rfl rfl rfl ?_
        refine done ?_
        refine thenN ?_
        refine seq ?_
        refine cond_b rfl (fun h_25 => ?_) (fun h_25 => ?_)
        · skip
          have h_25p := of_decide_eq_true h_25
          refine wp_skip ?_
          refine thenN ?_
          refine seq ?_
          refine blk ?_
          refine seq ?_
          refine region [true, true, false, false, true, false] ?_
          refine q_move (v := .int .i64 (i : Int)) rfl rfl ?_
          obtain ⟨x_26, hx_26⟩ := Sl.get (xs := xs) h.here (i := (i : Int)) (by omega) (by omega)
          have Ax_26 := Sl.areaAt h (Sl.map_get hx_26)
          refine q_indexS' rfl rfl rfl el29 (h.here.there (by omega)).1 (by omega) (by omega) ?_
          refine l_loadN trivial rfl rfl ag46 rfl (Ax_26.now e0_2) ?_
          refine l_alloc (M := M) Keep.any (hM.on z9i) rfl ze46 (fun k_27 w3 s3 ck_27 nk_27 ok_27 => ?_)
          have lk_27_0 : w.heap.size ≤ k_27 := Nat.le_trans e0_2.size nk_27
          have lk_27_w : w.heap.size ≤ k_27 := Nat.le_trans z9i.size nk_27
          have e0_3 : Evo M w w3 := e0_2.trans s3.no
          have z3 : Evo No w w3 := z9i.trans s3.no
          have hlk_27 := ck_27.lt
          refine q_assign (v := .int .i64 (i : Int)) rfl rfl ?_
          refine l_store Keep.any rfl rfl ck_27 rfl sz46 rfl (Nat.le_of_ble_eq_true rfl) rfl (cs' := [.string x_26.name, .int .i64 x_26.len, .int .u32 x_26.sum]) rfl (fun w4 s4 c_28 => ?_)
          have e0_4 : Evo M w w4 := e0_3.fresh s4 lk_27_0
          have z4 : Evo No w w4 := z3.fresh s4 lk_27_w
          refine done ?_
          refine thenN ?_
          refine seq ?_
          refine region [true, true, true, true, false] ?_
          refine q_move (v := .slice a n c) rfl rfl ?_
          refine q_move (v := .int .i64 (i : Int)) rfl rfl ?_
          have hcap := h.here.cap
          refine q_sliceHi rfl rfl rfl el29 (by omega) (by omega) ?_
          refine q_makeFunc rfl rfl ?_
          have hT : At M w (Sl 3 ((xs.take i).map encO) a i c) := by rw [List.map_take]; exact h.imp fun _ _ h => Sl.take h (by omega)
          refine l_call Keep.any rfl (hasObjs_c (M := M) w4 (hM.on z4) (xs.take i) a i c (hT.on e0_4) (by omega) 78 [.pointer (some ⟨k_27, 0, none⟩)] (fun y => decide (y.name = x_26.name)) en78 (fun y w9 e9 => sameName_c (M := M) w9 (hM.on (z4.trans e9)) y x_26 k_27 _ (c_28.no e9))) en77 rfl rfl (fun v_29 w5 s5 q_30 => ?_)
          have e0_5 : Evo M w w5 := e0_4.trans s5.no
          have z5 : Evo No w w5 := z4.trans s5.no
          have c_31 := c_28.no s5
          obtain rfl := q_30
          refine done ?_
          refine thenN ?_
          refine cond_b rfl (fun h_32 => ?_) (fun h_32 => ?_)
          · skip
            refine seq ?_
            refine region [false, true] ?_
            refine l_load trivial rfl rfl pl34 ((hG.now e0_5).cell 3 (by decide)) ?_
            refine q_assign (v := sen bl 3) rfl rfl ?_
            refine done ?_
            refine thenN ?_
            refine wp_ret ?_
            refine blkR ?_
            refine thenR ?_
            refine thenR ?_
            refine blkR ?_
            refine thenR ?_
            refine ret1v (sen bl 3) rfl rfl ?_
            have hnd : dupFrom [] xs = true := by rw [← hd, drop_cons (i := i) hx_26]; simp only [dupFrom]; rw [h_32, Bool.true_or]
            exact ⟨z5, fun _ _ => by unfold objsErr; rw [if_neg (by omega)]; rw [hob]; simp [hnd, ErIs]⟩
          · skip
            refine wp_skip ?_
            refine blkN ?_
            refine thenN ?_
            refine region [true, true] ?_
            refine q_add rfl rfl rfl (wi64 (by omega) (by omega)) ?_
            refine q_move (v := .int .i64 ((i : Int) + 1)) rfl rfl ?_
            refine done ?_
            refine thenN ?_
            have hb : dupFrom (xs.take i) (xs.drop i) = dupFrom (xs.take (i + 1)) (xs.drop (i + 1)) := by rw [drop_cons (i := i) hx_26]; simp only [dupFrom]; rw [h_32, Bool.false_or, List.take_add_one, show xs[i]? = some x_26 from hx_26]; rfl
            refine ⟨_, _, ?_, ⟨i + 1, rfl, by omega, by rw [← hd, hb], z5, rfl⟩, Env.near_at 29 (by kernel_rfl) (by kernel_rfl) ⟨(Eq.trans (b := Go.Value.int .i64 ((i : Int) + 1)) (by kernel_rfl) (nextI i)), trivial⟩⟩
            omega
        · skip
          have h_25p := of_decide_eq_false h_25
          refine wp_exit ?_
          refine thenX ?_
          refine thenX ?_
          refine blkX ?_
          refine thenN ?_
          refine seq ?_
          refine region [true] ?_
          refine q_assign (v := .nilIface) rfl rfl ?_
          refine done ?_
          refine thenN ?_
          refine wp_ret ?_
          refine ret1v (.nilIface) rfl rfl ?_
          have hnd : dupFrom [] xs = false := by rw [← hd, List.drop_eq_nil_of_le (by omega)]; rfl
          exact ⟨z9i, fun _ _ => by unfold objsErr; rw [if_neg (by omega)]; rw [hob]; simp [hnd, ErIs]⟩

theorem maniValid_c {M : Nat → Prop} (w : World) (hM : Old M w) (bl : Nat → Addr) (hG : At M w (Gl bl)) (m : Mani) (ea : Option Addr) (en ec : Nat) (oa : Option Addr) (on oc : Nat) (he : At M w (Sl 2 (m.epochs.map encP) ea en ec)) (ho : At M w (Sl 3 (m.objects.map encO) oa on oc)) (eN : en ≤ 1048576) (oN : on ≤ 1048576) :
    Calls Tryd.prog 21 (List.toArray [.agg (List.toArray [.int .i64 m.id, .int .i64 m.base, .int .i64 m.end_, .int .i64 m.time, .slice ea en ec, .slice oa on oc])]) w (Ret No w fun v w9 => At M w9 (ErIs bl (maniErr m) v)) := by
  refine enter (n := 87) [(0, .agg (List.toArray [.int .i64 m.id, .int .i64 m.base, .int .i64 m.end_, .int .i64 m.time, .slice ea en ec, .slice oa on oc]))] Tryd.func21 rfl (by kernel_rfl) ?_
  have hel := he.here.len
  rw [List.length_map] at hel
  refine seq ?_
  refine region [false, true] ?_
  refine l_box (M := M) Keep.any hM rfl rfl (fun k_1 w1 s1 fk_1 nk_1 => ?_)
  have e0_1 : Evo M w w1 := s1.no
  have z1 : Evo No w w1 := s1.no
  refine q_assign (v := .nilIface) rfl rfl ?_
  refine done ?_
  refine thenN ?_
  refine seq ?_
  refine region [true] ?_
  refine q_assign (v := .func (.func 45) #[] #[]) rfl rfl ?_
  refine done ?_
  refine thenN ?_
  refine seq ?_
  refine seq ?_
  refine region [true, false, true, true, true, false, true, true, true, true, true, false, false, true, true, true, true, true, false, false, true, true, true, true, false, true, true, true, true, false, true, true, true, true, false, true, false, true, true] ?_
  refine q_fieldAddr rfl rfl fl31_0 ?_
  refine l_loadB trivial rfl rfl pl3 (fk_1.now (Evo.refl M _)) rfl ?_
  refine q_lss rfl rfl rfl ?_
  refine q_move (v := .bool (decide (m.id < 0))) rfl rfl ?_
  rcases bsplit (decide (m.id < 0)) with h_2 | h_2
  · skip
    have h_2p := of_decide_eq_true h_2
    refine q_no (gtf h_2) ?_
    refine l_no (gtf h_2) ?_
    refine q_no (gtf h_2) ?_
    refine q_pick_bt (v := .bool true) rfl rfl h_2 rfl ?_
    refine q_move (v := .bool true) rfl rfl ?_
    refine q_no rfl ?_
    refine q_no rfl ?_
    refine l_no rfl ?_
    refine l_no rfl ?_
    refine q_no rfl ?_
    refine q_pick_t (v := .bool true) rfl rfl rfl ?_
    refine q_move (v := .bool true) rfl rfl ?_
    refine q_no rfl ?_
    refine q_no rfl ?_
    refine l_no rfl ?_
    refine l_no rfl ?_
    refine q_no rfl ?_
    refine q_pick_t (v := .bool true) rfl rfl rfl ?_
    refine q_move (v := .bool true) rfl rfl ?_
    refine q_no rfl ?_
    refine l_no rfl ?_
    refine q_no rfl ?_
    refine q_pick_t (v := .bool true) rfl rfl rfl ?_
    refine q_move (v := .bool true) rfl rfl ?_
    refine q_no rfl ?_
    refine l_no rfl ?_
    refine q_no rfl ?_
    refine q_pick_t (v := .bool true) rfl rfl rfl ?_
    refine q_move (v := .bool true) rfl rfl ?_
    refine q_no rfl ?_
    refine l_no rfl ?_
    refine q_no rfl ?_
    refine l_no rfl ?_
    refine q_no rfl ?_
    refine q_pick_t (v := .bool true) rfl rfl rfl ?_
    refine done ?_
    refine thenN ?_
    refine cond_t rfl ?_
    refine seq ?_
    refine region [false, true] ?_
    refine l_load trivial rfl rfl pl34 ((hG.now e0_1).cell 4 (by decide)) ?_
    refine q_assign (v := sen bl 4) rfl rfl ?_
    refine done ?_
    refine thenN ?_
    refine wp_ret ?_
    refine thenR ?_
    refine ret1v (sen bl 4) rfl rfl ?_
    exact ⟨z1, fun _ _ => by unfold maniErr; rw [if_pos (by first | (left; (first | omega | assumption | simp_all); done) | (right; left; (first | omega | assumption | simp_all); done) | (right; right; left; (first | omega | assumption | simp_all); done) | (right; right; right; left; (first | omega | assumption | simp_all); done) | (right; right; right; right; left; (first | omega | assumption | simp_all); done) | (right; right; right; right; right; left; (first | omega | assumption | simp_all); done) | (right; right; right; right; right; right; (first | omega | assumption | simp_all); done))]; rfl⟩
  · skip
    have h_2p := of_decide_eq_false h_2
    refine q_fieldAddr (gff h_2) rfl fl31_0 ?_
    refine l_loadB trivial (gff h_2) rfl pl3 (fk_1.now (Evo.refl M _)) rfl ?_
    refine q_gtr (gff h_2) rfl rfl ?_
    refine q_pick_bf (v := .bool (decide (2147483647 < m.id))) rfl rfl h_2 rfl ?_
    refine q_move (v := .bool (decide (2147483647 < m.id))) rfl rfl ?_
    rcases bsplit (decide (2147483647 < m.id)) with h_3 | h_3
    · skip
      have h_3p := of_decide_eq_true h_3
      refine q_no (gtf h_3) ?_
      refine q_no (gtf h_3) ?_
      refine l_no (gtf h_3) ?_
      refine l_no (gtf h_3) ?_
      refine q_no (gtf h_3) ?_
      refine q_pick_bt (v := .bool true) rfl rfl h_3 rfl ?_
      refine q_move (v := .bool true) rfl rfl ?_
      refine q_no rfl ?_
      refine q_no rfl ?_
      refine l_no rfl ?_
      refine l_no rfl ?_
      refine q_no rfl ?_
      refine q_pick_t (v := .bool true) rfl rfl rfl ?_
      refine q_move (v := .bool true) rfl rfl ?_
      refine q_no rfl ?_
      refine l_no rfl ?_
      refine q_no rfl ?_
      refine q_pick_t (v := .bool true) rfl rfl rfl ?_
      refine q_move (v := .bool true) rfl rfl ?_
      refine q_no rfl ?_
      refine l_no rfl ?_
      refine q_no rfl ?_
      refine q_pick_t (v := .bool true) rfl rfl rfl ?_
      refine q_move (v := .bool true) rfl rfl ?_
      refine q_no rfl ?_
      refine l_no rfl ?_
      refine q_no rfl ?_
      refine l_no rfl ?_
      refine q_no rfl ?_
      refine q_pick_t (v := .bool true) rfl rfl rfl ?_
      refine done ?_
      refine thenN ?_
      refine cond_t rfl ?_
      refine seq ?_
      refine region [false, true] ?_
      refine l_load trivial rfl rfl pl34 ((hG.now e0_1).cell 4 (by decide)) ?_
      refine q_assign (v := sen bl 4) rfl rfl ?_
      refine done ?_
      refine thenN ?_
      refine wp_ret ?_
      refine thenR ?_
      refine ret1v (sen bl 4) rfl rfl ?_
      exact ⟨z1, fun _ _ => by unfold maniErr; rw [if_pos (by first | (left; (first | omega | assumption | simp_all); done) | (right; left; (first | omega | assumption | simp_all); done) | (right; right; left; (first | omega | assumption | simp_all); done) | (right; right; right; left; (first | omega | assumption | simp_all); done) | (right; right; right; right; left; (first | omega | assumption | simp_all); done) | (right; right; right; right; right; left; (first | omega | assumption | simp_all); done) | (right; right; right; right; right; right; (first | omega | assumption | simp_all); done))]; rfl⟩
    · skip
      have h_3p := of_decide_eq_false h_3
      refine q_move (v := .func (.func 45) #[] #[]) (gff h_3) rfl ?_
      refine q_fieldAddr (gff h_3) rfl fl31_1 ?_
      refine l_loadB trivial (gff h_3) rfl pl2 (fk_1.now (Evo.refl M _)) rfl ?_
      refine l_call Keep.any (gff h_3) (maniRight_c (M := M) w1 m.base) en45 rfl rfl (fun v_4 w2 s2 q_5 => ?_)
      have e0_2 : Evo M w w2 := e0_1.trans s2.no
      have e1_2 : Evo M w1 w2 := s2.no
      have z2 : Evo No w w2 := z1.trans s2.no
      obtain rfl := q_5
      refine q_not (gff h_3) rfl ?_
      refine q_pick_bf (v := .bool (!(right m.base))) rfl rfl h_3 rfl ?_
      refine q_move (v := .bool (!(right m.base))) rfl rfl ?_
      rcases bsplit (!(right m.base)) with h_6 | h_6
      · skip
        have h_7 := unT h_6
        refine q_no (gtf h_6) ?_
        refine q_no (gtf h_6) ?_
        refine l_no (gtf h_6) ?_
        refine l_no (gtf h_6) ?_
        refine q_no (gtf h_6) ?_
        refine q_pick_bt (v := .bool true) rfl rfl h_6 rfl ?_
        refine q_move (v := .bool true) rfl rfl ?_
        refine q_no rfl ?_
        refine l_no rfl ?_
        refine q_no rfl ?_
        refine q_pick_t (v := .bool true) rfl rfl rfl ?_
        refine q_move (v := .bool true) rfl rfl ?_
        refine q_no rfl ?_
        refine l_no rfl ?_
        refine q_no rfl ?_
        refine q_pick_t (v := .bool true) rfl rfl rfl ?_
        refine q_move (v := .bool true) rfl rfl ?_
        refine q_no rfl ?_
        refine l_no rfl ?_
        refine q_no rfl ?_
        refine l_no rfl ?_
        refine q_no rfl ?_
        refine q_pick_t (v := .bool true) rfl rfl rfl ?_
        refine done ?_
        refine thenN ?_
        refine cond_t rfl ?_
        refine seq ?_
        refine region [false, true] ?_
        refine l_load trivial rfl rfl pl34 ((hG.now e0_2).cell 4 (by decide)) ?_
        refine q_assign (v := sen bl 4) rfl rfl ?_
        refine done ?_
        refine thenN ?_
        refine wp_ret ?_
        refine thenR ?_
        refine ret1v (sen bl 4) rfl rfl ?_
        exact ⟨z2, fun _ _ => by unfold maniErr; rw [if_pos (by first | (left; (first | omega | assumption | simp_all); done) | (right; left; (first | omega | assumption | simp_all); done) | (right; right; left; (first | omega | assumption | simp_all); done) | (right; right; right; left; (first | omega | assumption | simp_all); done) | (right; right; right; right; left; (first | omega | assumption | simp_all); done) | (right; right; right; right; right; left; (first | omega | assumption | simp_all); done) | (right; right; right; right; right; right; (first | omega | assumption | simp_all); done))]; rfl⟩
      · skip
        have h_8 := unF h_6
        refine q_move (v := .func (.func 45) #[] #[]) (gff h_6) rfl ?_
        refine q_fieldAddr (gff h_6) rfl fl31_2 ?_
        refine l_loadB trivial (gff h_6) rfl pl2 (fk_1.now e1_2) rfl ?_
        refine l_call Keep.any (gff h_6) (maniRight_c (M := M) w2 m.end_) en45 rfl rfl (fun v_9 w3 s3 q_10 => ?_)
        have e0_3 : Evo M w w3 := e0_2.trans s3.no
        have e1_3 : Evo M w1 w3 := e1_2.trans s3.no
        have z3 : Evo No w w3 := z2.trans s3.no
        obtain rfl := q_10
        refine q_not (gff h_6) rfl ?_
        refine q_pick_bf (v := .bool (!(right m.end_))) rfl rfl h_6 rfl ?_
        refine q_move (v := .bool (!(right m.end_))) rfl rfl ?_
        rcases bsplit (!(right m.end_)) with h_11 | h_11
        · skip
          have h_12 := unT h_11
          refine q_no (gtf h_11) ?_
          refine l_no (gtf h_11) ?_
          refine q_no (gtf h_11) ?_
          refine q_pick_bt (v := .bool true) rfl rfl h_11 rfl ?_
          refine q_move (v := .bool true) rfl rfl ?_
          refine q_no rfl ?_
          refine l_no rfl ?_
          refine q_no rfl ?_
          refine q_pick_t (v := .bool true) rfl rfl rfl ?_
          refine q_move (v := .bool true) rfl rfl ?_
          refine q_no rfl ?_
          refine l_no rfl ?_
          refine q_no rfl ?_
          refine l_no rfl ?_
          refine q_no rfl ?_
          refine q_pick_t (v := .bool true) rfl rfl rfl ?_
          refine done ?_
          refine thenN ?_
          refine cond_t rfl ?_
          refine seq ?_
          refine region [false, true] ?_
          refine l_load trivial rfl rfl pl34 ((hG.now e0_3).cell 4 (by decide)) ?_
          refine q_assign (v := sen bl 4) rfl rfl ?_
          refine done ?_
          refine thenN ?_
          refine wp_ret ?_
          refine thenR ?_
          refine ret1v (sen bl 4) rfl rfl ?_
          exact ⟨z3, fun _ _ => by unfold maniErr; rw [if_pos (by first | (left; (first | omega | assumption | simp_all); done) | (right; left; (first | omega | assumption | simp_all); done) | (right; right; left; (first | omega | assumption | simp_all); done) | (right; right; right; left; (first | omega | assumption | simp_all); done) | (right; right; right; right; left; (first | omega | assumption | simp_all); done) | (right; right; right; right; right; left; (first | omega | assumption | simp_all); done) | (right; right; right; right; right; right; (first | omega | assumption | simp_all); done))]; rfl⟩
        · skip
          have h_13 := unF h_11
          refine q_fieldAddr (gff h_11) rfl fl31_3 ?_
          refine l_loadB trivial (gff h_11) rfl pl2 (fk_1.now e1_3) rfl ?_
          refine q_lss (gff h_11) rfl rfl ?_
          refine q_pick_bf (v := .bool (decide (m.time < -1099511627776))) rfl rfl h_11 rfl ?_
          refine q_move (v := .bool (decide (m.time < -1099511627776))) rfl rfl ?_
          rcases bsplit (decide (m.time < -1099511627776)) with h_14 | h_14
          · skip
            have h_14p := of_decide_eq_true h_14
            refine q_no (gtf h_14) ?_
            refine l_no (gtf h_14) ?_
            refine q_no (gtf h_14) ?_
            refine q_pick_bt (v := .bool true) rfl rfl h_14 rfl ?_
            refine q_move (v := .bool true) rfl rfl ?_
            refine q_no rfl ?_
            refine l_no rfl ?_
            refine q_no rfl ?_
            refine l_no rfl ?_
            refine q_no rfl ?_
            refine q_pick_t (v := .bool true) rfl rfl rfl ?_
            refine done ?_
            refine thenN ?_
            refine cond_t rfl ?_
            refine seq ?_
            refine region [false, true] ?_
            refine l_load trivial rfl rfl pl34 ((hG.now e0_3).cell 4 (by decide)) ?_
            refine q_assign (v := sen bl 4) rfl rfl ?_
            refine done ?_
            refine thenN ?_
            refine wp_ret ?_
            refine thenR ?_
            refine ret1v (sen bl 4) rfl rfl ?_
            exact ⟨z3, fun _ _ => by unfold maniErr; rw [if_pos (by first | (left; (first | omega | assumption | simp_all); done) | (right; left; (first | omega | assumption | simp_all); done) | (right; right; left; (first | omega | assumption | simp_all); done) | (right; right; right; left; (first | omega | assumption | simp_all); done) | (right; right; right; right; left; (first | omega | assumption | simp_all); done) | (right; right; right; right; right; left; (first | omega | assumption | simp_all); done) | (right; right; right; right; right; right; (first | omega | assumption | simp_all); done))]; rfl⟩
          · skip
            have h_14p := of_decide_eq_false h_14
            refine q_fieldAddr (gff h_14) rfl fl31_3 ?_
            refine l_loadB trivial (gff h_14) rfl pl2 (fk_1.now e1_3) rfl ?_
            refine q_gtr (gff h_14) rfl rfl ?_
            refine q_pick_bf (v := .bool (decide (1099511627776 < m.time))) rfl rfl h_14 rfl ?_
            refine q_move (v := .bool (decide (1099511627776 < m.time))) rfl rfl ?_
            rcases bsplit (decide (1099511627776 < m.time)) with h_15 | h_15
            · skip
              have h_15p := of_decide_eq_true h_15
              refine q_no (gtf h_15) ?_
              refine l_no (gtf h_15) ?_
              refine q_no (gtf h_15) ?_
              refine l_no (gtf h_15) ?_
              refine q_no (gtf h_15) ?_
              refine q_pick_bt (v := .bool true) rfl rfl h_15 rfl ?_
              refine done ?_
              refine thenN ?_
              refine cond_t rfl ?_
              refine seq ?_
              refine region [false, true] ?_
              refine l_load trivial rfl rfl pl34 ((hG.now e0_3).cell 4 (by decide)) ?_
              refine q_assign (v := sen bl 4) rfl rfl ?_
              refine done ?_
              refine thenN ?_
              refine wp_ret ?_
              refine thenR ?_
              refine ret1v (sen bl 4) rfl rfl ?_
              exact ⟨z3, fun _ _ => by unfold maniErr; rw [if_pos (by first | (left; (first | omega | assumption | simp_all); done) | (right; left; (first | omega | assumption | simp_all); done) | (right; right; left; (first | omega | assumption | simp_all); done) | (right; right; right; left; (first | omega | assumption | simp_all); done) | (right; right; right; right; left; (first | omega | assumption | simp_all); done) | (right; right; right; right; right; left; (first | omega | assumption | simp_all); done) | (right; right; right; right; right; right; (first | omega | assumption | simp_all); done))]; rfl⟩
            · skip
              have h_15p := of_decide_eq_false h_15
              refine q_fieldAddr (gff h_15) rfl fl31_2 ?_
              refine l_loadB trivial (gff h_15) rfl pl2 (fk_1.now e1_3) rfl ?_
              refine q_fieldAddr (gff h_15) rfl fl31_1 ?_
              refine l_loadB trivial (gff h_15) rfl pl2 (fk_1.now e1_3) rfl ?_
              refine q_leq (gff h_15) rfl rfl ?_
              refine q_pick_bf (v := .bool (decide (m.end_ ≤ m.base))) rfl rfl h_15 rfl ?_
              refine done ?_
              refine thenN ?_
              refine cond_b rfl (fun h_16 => ?_) (fun h_16 => ?_)
              · skip
                have h_16p := of_decide_eq_true h_16
                refine seq ?_
                refine region [false, true] ?_
                refine l_load trivial rfl rfl pl34 ((hG.now e0_3).cell 4 (by decide)) ?_
                refine q_assign (v := sen bl 4) rfl rfl ?_
                refine done ?_
                refine thenN ?_
                refine wp_ret ?_
                refine thenR ?_
                refine ret1v (sen bl 4) rfl rfl ?_
                exact ⟨z3, fun _ _ => by unfold maniErr; rw [if_pos (by first | (left; (first | omega | assumption | simp_all); done) | (right; left; (first | omega | assumption | simp_all); done) | (right; right; left; (first | omega | assumption | simp_all); done) | (right; right; right; left; (first | omega | assumption | simp_all); done) | (right; right; right; right; left; (first | omega | assumption | simp_all); done) | (right; right; right; right; right; left; (first | omega | assumption | simp_all); done) | (right; right; right; right; right; right; (first | omega | assumption | simp_all); done))]; rfl⟩
              · skip
                have h_16p := of_decide_eq_false h_16
                refine wp_skip ?_
                refine thenN ?_
                refine seq ?_
                refine seq ?_
                refine region [true, false, false, true, true, true, true, true] ?_
                refine q_fieldAddr rfl rfl fl31_4 ?_
                refine l_loadB trivial rfl rfl pl28 (fk_1.now e1_3) rfl ?_
                refine l_call Keep.any rfl (epochNew_c (M := M) w3 (hM.on z3) bl (hG.on e0_3) m.epochs _ _ _ (he.on e0_3) eN) en46 rfl rfl (fun v_20 w4 s4 q_21 => ?_)
                have e0_4 : Evo M w w4 := e0_3.trans s4.no
                have e1_4 : Evo M w1 w4 := e1_3.trans s4.no
                have z4 : Evo No w w4 := z3.trans s4.no
                obtain ⟨pq_19, er_17, rfl, E_18⟩ := q_21
                refine q_move (v := .tuple #[pq_19, er_17]) rfl rfl ?_
                refine q_extract rfl rfl rfl ?_
                refine q_extract rfl rfl rfl ?_
                refine q_assign (v := pq_19) rfl rfl ?_
                refine q_assign (v := er_17) rfl rfl ?_
                refine done ?_
                refine thenN ?_
                refine seq ?_
                refine region [true, true] ?_
                refine q_move (v := er_17) rfl rfl ?_
                rcases ErIs.cases E_18.here with ⟨h_22, rfl⟩ | ⟨h_22, t_23, u_24, rfl⟩
                · skip
                  refine q_nilNeq rfl rfl if34 ?_
                  refine done ?_
                  refine thenN ?_
                  refine cond_f rfl ?_
                  refine wp_skip ?_
                  refine thenN ?_
                  refine seq ?_
                  refine seq ?_
                  refine region [true, false, true, true] ?_
                  refine q_fieldAddr rfl rfl fl31_4 ?_
                  refine l_loadB trivial rfl rfl pl28 (fk_1.now e1_4) rfl ?_
                  refine q_len rfl rfl el28 ?_
                  refine q_assign (v := .int .i64 (en : Int)) rfl rfl ?_
                  refine done ?_
                  refine thenN ?_
                  refine seq ?_
                  refine regionD No (.q 0 (.q 1 (.q 2 (.q 3 (.q 4 (.q 5 (.q 6 (.q 7 (.q 8 (.q 9 (.q 10 (.q 11 (.q 12 (.q 13 (.q 14 (.q 15 (.q 16 (.q 17 (.q 18 (.q 19 (.q 20 (.q 21 (.q 22 (.q 23 (.nil))))))))))))))))))))))))) mixed (by kernel_rfl) (by kernel_rfl) (by kernel_rfl) (fun w5 s5 => ?_)
                  have e0_5 : Evo M w w5 := e0_4.trans s5.no
                  have e1_5 : Evo M w1 w5 := e1_4.trans s5.no
                  have e4_5 : Evo M w4 w5 := s5.no
                  have z5 : Evo No w w5 := z4.trans s5.no
                  have rgr_25_5 : Evo No w4 w5 := s5.no
                  refine q_move (v := .int .i64 (en : Int)) rfl rfl ?_
                  refine q_eql rfl rfl rfl ?_
                  refine q_move (v := .bool (decide ((en : Int) = 0))) rfl rfl ?_
                  rcases bsplit (decide ((en : Int) = 0)) with h_26 | h_26
                  · skip
                    have h_26p := of_decide_eq_true h_26
                    refine q_no (gtf h_26) ?_
                    refine q_no (gtf h_26) ?_
                    refine q_no (gtf h_26) ?_
                    refine q_no (gtf h_26) ?_
                    refine q_no (gtf h_26) ?_
                    refine q_no (gtf h_26) ?_
                    refine q_no (gtf h_26) ?_
                    refine q_no (gtf h_26) ?_
                    refine q_pick_bt (v := .bool true) rfl rfl h_26 rfl ?_
                    refine q_move (v := .bool true) rfl rfl ?_
                    refine q_no rfl ?_
                    refine q_no rfl ?_
                    refine q_no rfl ?_
                    refine q_no rfl ?_
                    refine q_no rfl ?_
                    refine q_no rfl ?_
                    refine q_no rfl ?_
                    refine q_no rfl ?_
                    refine q_no rfl ?_
                    refine q_no rfl ?_
                    refine q_pick_t (v := .bool true) rfl rfl rfl ?_
                    refine done ?_
                    refine thenN ?_
                    refine cond_t rfl ?_
                    refine seq ?_
                    refine region [false, true] ?_
                    refine l_load trivial rfl rfl pl34 ((hG.now e0_5).cell 3 (by decide)) ?_
                    refine q_assign (v := sen bl 3) rfl rfl ?_
                    refine done ?_
                    refine thenN ?_
                    refine wp_ret ?_
                    refine thenR ?_
                    refine ret1v (sen bl 3) rfl rfl ?_
                    exact ⟨z5, fun _ _ => by unfold maniErr; rw [if_neg (by rintro (h | h | h | h | h | h | h) <;> first | omega | simp_all)]; rw [h_22]; simp only; rw [if_pos (.inl (List.eq_nil_of_length_eq_zero (by omega)))]; rfl⟩
                  · skip
                    have h_26p := of_decide_eq_false h_26
                    refine q_fieldAddr (gff h_26) rfl fl31_4 ?_
                    refine q_loadB (gff h_26) rfl pl28 (fk_1.via e1_4 noX) rfl ?_
                    obtain ⟨x_27, hx_27⟩ := Sl.get (xs := m.epochs) he.here (i := 0) (by omega) (by omega)
                    have Ax_27 := Sl.areaAt he (Sl.map_get hx_27)
                    refine q_indexS' (gff h_26) rfl rfl el28 (he.here.there (by omega)).1 (by omega) (by omega) ?_
                    refine q_fieldAddr (gff h_26) rfl fl61_1 ?_
                    refine q_load (gff h_26) rfl pl2 (fun w0 e0 => (Ax_27.via e0_4 noX) w0 e0 1 _ rfl) ?_
                    refine q_fieldAddr (gff h_26) rfl fl31_1 ?_
                    refine q_loadB (gff h_26) rfl pl2 (fk_1.via e1_4 noX) rfl ?_
                    refine q_neq (gff h_26) rfl rfl ?_
                    refine q_pick_bf (v := .bool (!(decide (x_27.2 = m.base)))) rfl rfl h_26 rfl ?_
                    refine q_move (v := .bool (!(decide (x_27.2 = m.base)))) rfl rfl ?_
                    rcases bsplit (!(decide (x_27.2 = m.base))) with h_28 | h_28
                    · skip
                      have h_29 := unT h_28
                      have h_29p := of_decide_eq_false h_29
                      refine q_no (gtf h_28) ?_
                      refine q_no (gtf h_28) ?_
                      refine q_no (gtf h_28) ?_
                      refine q_no (gtf h_28) ?_
                      refine q_no (gtf h_28) ?_
                      refine q_no (gtf h_28) ?_
                      refine q_no (gtf h_28) ?_
                      refine q_no (gtf h_28) ?_
                      refine q_no (gtf h_28) ?_
                      refine q_no (gtf h_28) ?_
                      refine q_pick_bt (v := .bool true) rfl rfl h_28 rfl ?_
                      refine done ?_
                      refine thenN ?_
                      refine cond_t rfl ?_
                      refine seq ?_
                      refine region [false, true] ?_
                      refine l_load trivial rfl rfl pl34 ((hG.now e0_5).cell 3 (by decide)) ?_
                      refine q_assign (v := sen bl 3) rfl rfl ?_
                      refine done ?_
                      refine thenN ?_
                      refine wp_ret ?_
                      refine thenR ?_
                      refine ret1v (sen bl 3) rfl rfl ?_
                      have hd : m.epochs.head? = some x_27 := by rw [List.head?_eq_getElem?]; exact hx_27
                      exact ⟨z5, fun _ _ => by unfold maniErr; rw [if_neg (by rintro (h | h | h | h | h | h | h) <;> first | omega | simp_all)]; rw [h_22]; simp only; rw [if_pos (.inr (.inl (by rw [hd]; simp; omega)))]; rfl⟩
                    · skip
                      have h_30 := unF h_28
                      have h_30p := of_decide_eq_true h_30
                      refine q_fieldAddr (gff h_28) rfl fl31_4 ?_
                      refine q_loadB (gff h_28) rfl pl28 (fk_1.via e1_4 noX) rfl ?_
                      refine q_move (v := .int .i64 (en : Int)) (gff h_28) rfl ?_
                      refine q_sub (gff h_28) rfl rfl (wi64 (by omega) (by omega)) ?_
                      obtain ⟨x_31, hx_31⟩ := Sl.get (xs := m.epochs) he.here (i := (en : Int) - 1) (by omega) (by omega)
                      have Ax_31 := Sl.areaAt he (Sl.map_get hx_31)
                      refine q_indexS' (gff h_28) rfl rfl el28 (he.here.there (by omega)).1 (by omega) (by omega) ?_
                      refine q_fieldAddr (gff h_28) rfl fl61_1 ?_
                      refine q_load (gff h_28) rfl pl2 (fun w0 e0 => (Ax_31.via e0_4 noX) w0 e0 1 _ rfl) ?_
                      refine q_fieldAddr (gff h_28) rfl fl31_2 ?_
                      refine q_loadB (gff h_28) rfl pl2 (fk_1.via e1_4 noX) rfl ?_
                      refine q_geq (gff h_28) rfl rfl ?_
                      refine q_pick_bf (v := .bool (decide (m.end_ ≤ x_31.2))) rfl rfl h_28 rfl ?_
                      refine done ?_
                      refine thenN ?_
                      refine cond_b rfl (fun h_32 => ?_) (fun h_32 => ?_)
                      · skip
                        have h_32p := of_decide_eq_true h_32
                        refine seq ?_
                        refine region [false, true] ?_
                        refine l_load trivial rfl rfl pl34 ((hG.now e0_5).cell 3 (by decide)) ?_
                        refine q_assign (v := sen bl 3) rfl rfl ?_
                        refine done ?_
                        refine thenN ?_
                        refine wp_ret ?_
                        refine thenR ?_
                        refine ret1v (sen bl 3) rfl rfl ?_
                        have hd : m.epochs.head? = some x_27 := by rw [List.head?_eq_getElem?]; exact hx_27
                        have hg : m.epochs.getLast? = some x_31 := by rw [List.getLast?_eq_getElem?, ← hel, show en - 1 = ((en : Int) - 1).toNat from (by omega)]; exact hx_31
                        exact ⟨z5, fun _ _ => by unfold maniErr; rw [if_neg (by rintro (h | h | h | h | h | h | h) <;> first | omega | simp_all)]; rw [h_22]; simp only; rw [if_pos (.inr (.inr (by rw [hg]; simp; omega)))]; rfl⟩
                      · skip
                        have h_32p := of_decide_eq_false h_32
                        refine wp_skip ?_
                        refine thenN ?_
                        refine seq ?_
                        refine region [true, false, false, true] ?_
                        refine q_fieldAddr rfl rfl fl31_5 ?_
                        refine l_loadB trivial rfl rfl pl29 (fk_1.now e1_5) rfl ?_
                        refine l_call Keep.any rfl (maniObjects_c (M := M) w5 (hM.on z5) bl (hG.on e0_5) m.objects _ _ _ (ho.on e0_5) oN) en47 rfl rfl (fun v_36 w6 s6 q_37 => ?_)
                        have e0_6 : Evo M w w6 := e0_5.trans s6.no
                        have e1_6 : Evo M w1 w6 := e1_5.trans s6.no
                        have e4_6 : Evo M w4 w6 := e4_5.trans s6.no
                        have z6 : Evo No w w6 := z5.trans s6.no
                        have E_34 := q_37
                        refine q_assign (v := v_36) rfl rfl ?_
                        refine done ?_
                        refine thenN ?_
                        refine wp_ret ?_
                        refine ret1v (v_36) rfl rfl ?_
                        skip
                        have hd : m.epochs.head? = some x_27 := by rw [List.head?_eq_getElem?]; exact hx_27
                        have hg : m.epochs.getLast? = some x_31 := by rw [List.getLast?_eq_getElem?, ← hel, show en - 1 = ((en : Int) - 1).toNat from (by omega)]; exact hx_31
                        exact ⟨z6, by unfold maniErr; rw [if_neg (by rintro (h | h | h | h | h | h | h) <;> first | omega | simp_all)]; rw [h_22]; simp only; rw [if_neg (by rw [hd, hg]; rintro (h | h | h) <;> first | (rw [h] at hel; simp at hel; omega) | (simp at h; omega))]; exact (E_34.on (Evo.refl M _))⟩
                · skip
                  refine q_ifNeq rfl rfl if34 ?_
                  refine done ?_
                  refine thenN ?_
                  refine cond_t rfl ?_
                  refine seq ?_
                  refine region [true, true] ?_
                  refine q_move (v := .iface t_23 (u_24)) rfl rfl ?_
                  refine q_assign (v := .iface t_23 (u_24)) rfl rfl ?_
                  refine done ?_
                  refine thenN ?_
                  refine wp_ret ?_
                  refine thenR ?_
                  refine ret1v (.iface t_23 (u_24)) rfl rfl ?_
                  have hne : epochErr m.epochs ≠ .ok := h_22
                  exact ⟨z4, by unfold maniErr; rw [if_neg (by rintro (h | h | h | h | h | h | h) <;> first | omega | simp_all)]; cases hq : epochErr m.epochs with
          | ok => exact absurd hq hne
          | e g => (have hE := (E_18.on (Evo.refl M _))); rw [hq] at hE; exact hE
          | at_ p g => (have hE := (E_18.on (Evo.refl M _))); rw [hq] at hE; exact hE⟩

theorem maniSame_c {M : Nat → Prop} (w : World) (hM : Old M w) (x : Mani) (ea : Option Addr) (an ac : Nat) (ob : Option Addr) (bn bc : Nat) (h1 : At M w (Sl 2 (x.epochs.map encP) ea an ac)) (h2 : At M w (Sl 3 (x.objects.map encO) ob bn bc)) (aN : an ≤ 1048576) (bN : bn ≤ 1048576) (y : Mani) (ec : Option Addr) (cn cc : Nat) (od : Option Addr) (dn dc : Nat) (h3 : At M w (Sl 2 (y.epochs.map encP) ec cn cc)) (h4 : At M w (Sl 3 (y.objects.map encO) od dn dc)) (cN : cn ≤ 1048576) (dN : dn ≤ 1048576) :
    Calls Tryd.prog 23 (List.toArray [.agg (List.toArray [.int .i64 x.id, .int .i64 x.base, .int .i64 x.end_, .int .i64 x.time, .slice ea an ac, .slice ob bn bc]), .agg (List.toArray [.int .i64 y.id, .int .i64 y.base, .int .i64 y.end_, .int .i64 y.time, .slice ec cn cc, .slice od dn dc])]) w (Ret No w fun v _ => v = .bool (decide (x = y))) := by
  refine enter (n := 45) [(0, .agg (List.toArray [.int .i64 x.id, .int .i64 x.base, .int .i64 x.end_, .int .i64 x.time, .slice ea an ac, .slice ob bn bc])), (1, .agg (List.toArray [.int .i64 y.id, .int .i64 y.base, .int .i64 y.end_, .int .i64 y.time, .slice ec cn cc, .slice od dn dc]))] Tryd.func23 rfl (by kernel_rfl) ?_
  refine seq ?_
  refine region [false, false, true] ?_
  refine l_box (M := M) Keep.any hM rfl rfl (fun k_1 w1 s1 fk_1 nk_1 => ?_)
  have e0_1 : Evo M w w1 := s1.no
  have z1 : Evo No w w1 := s1.no
  refine l_box (M := M) Keep.any (hM.on z1) rfl rfl (fun k_2 w2 s2 fk_2 nk_2 => ?_)
  have e0_2 : Evo M w w2 := e0_1.trans s2.no
  have e1_2 : Evo M w1 w2 := s2.no
  have z2 : Evo No w w2 := z1.trans s2.no
  refine q_assign (v := .bool false) rfl rfl ?_
  refine done ?_
  refine thenN ?_
  refine seq ?_
  refine region [true, false, true, false, true, true, true, false, true, false, true, true, true, true, false, true, false, true, true, true, true, false, true, false, true, true, true, true, false, true, false, false, true, true, true, false, true, false, false, true, true] ?_
  refine q_fieldAddr rfl rfl fl31_0 ?_
  refine l_loadB trivial rfl rfl pl3 (fk_1.now e1_2) rfl ?_
  refine q_fieldAddr rfl rfl fl31_0 ?_
  refine l_loadB trivial rfl rfl pl3 (fk_2.now (Evo.refl M _)) rfl ?_
  refine q_eql rfl rfl rfl ?_
  refine q_move (v := .bool (decide (x.id = y.id))) rfl rfl ?_
  rcases bsplit (decide (x.id = y.id)) with h_3 | h_3
  · skip
    have h_3p := of_decide_eq_true h_3
    refine q_fieldAddr (gtt h_3) rfl fl31_1 ?_
    refine l_loadB trivial (gtt h_3) rfl pl2 (fk_1.now e1_2) rfl ?_
    refine q_fieldAddr (gtt h_3) rfl fl31_1 ?_
    refine l_loadB trivial (gtt h_3) rfl pl2 (fk_2.now (Evo.refl M _)) rfl ?_
    refine q_eql (gtt h_3) rfl rfl ?_
    refine q_pick_bt (v := .bool (decide (x.base = y.base))) rfl rfl h_3 rfl ?_
    refine q_move (v := .bool (decide (x.base = y.base))) rfl rfl ?_
    rcases bsplit (decide (x.base = y.base)) with h_4 | h_4
    · skip
      have h_4p := of_decide_eq_true h_4
      refine q_fieldAddr (gtt h_4) rfl fl31_2 ?_
      refine l_loadB trivial (gtt h_4) rfl pl2 (fk_1.now e1_2) rfl ?_
      refine q_fieldAddr (gtt h_4) rfl fl31_2 ?_
      refine l_loadB trivial (gtt h_4) rfl pl2 (fk_2.now (Evo.refl M _)) rfl ?_
      refine q_eql (gtt h_4) rfl rfl ?_
      refine q_pick_bt (v := .bool (decide (x.end_ = y.end_))) rfl rfl h_4 rfl ?_
      refine q_move (v := .bool (decide (x.end_ = y.end_))) rfl rfl ?_
      rcases bsplit (decide (x.end_ = y.end_)) with h_5 | h_5
      · skip
        have h_5p := of_decide_eq_true h_5
        refine q_fieldAddr (gtt h_5) rfl fl31_3 ?_
        refine l_loadB trivial (gtt h_5) rfl pl2 (fk_1.now e1_2) rfl ?_
        refine q_fieldAddr (gtt h_5) rfl fl31_3 ?_
        refine l_loadB trivial (gtt h_5) rfl pl2 (fk_2.now (Evo.refl M _)) rfl ?_
        refine q_eql (gtt h_5) rfl rfl ?_
        refine q_pick_bt (v := .bool (decide (x.time = y.time))) rfl rfl h_5 rfl ?_
        refine q_move (v := .bool (decide (x.time = y.time))) rfl rfl ?_
        rcases bsplit (decide (x.time = y.time)) with h_6 | h_6
        · skip
          have h_6p := of_decide_eq_true h_6
          refine q_fieldAddr (gtt h_6) rfl fl31_4 ?_
          refine l_loadB trivial (gtt h_6) rfl pl28 (fk_1.now e1_2) rfl ?_
          refine q_fieldAddr (gtt h_6) rfl fl31_4 ?_
          refine l_loadB trivial (gtt h_6) rfl pl28 (fk_2.now (Evo.refl M _)) rfl ?_
          refine l_call Keep.any (gtt h_6) (equalPairs_c (M := M) w2 _ _ _ _ _ _ _ _ (h1.on e0_2) (h3.on e0_2) (by omega) (by omega)) en48 rfl rfl (fun v_7 w3 s3 q_8 => ?_)
          have e0_3 : Evo M w w3 := e0_2.trans s3.no
          have e1_3 : Evo M w1 w3 := e1_2.trans s3.no
          have e2_3 : Evo M w2 w3 := s3.no
          have z3 : Evo No w w3 := z2.trans s3.no
          obtain rfl := q_8
          refine q_pick_bt (v := .bool (decide (x.epochs = y.epochs))) rfl rfl h_6 rfl ?_
          refine q_move (v := .bool (decide (x.epochs = y.epochs))) rfl rfl ?_
          rcases bsplit (decide (x.epochs = y.epochs)) with h_9 | h_9
          · skip
            have h_9p := of_decide_eq_true h_9
            refine q_fieldAddr (gtt h_9) rfl fl31_5 ?_
            refine l_loadB trivial (gtt h_9) rfl pl29 (fk_1.now e1_3) rfl ?_
            refine q_fieldAddr (gtt h_9) rfl fl31_5 ?_
            refine l_loadB trivial (gtt h_9) rfl pl29 (fk_2.now e2_3) rfl ?_
            refine l_call Keep.any (gtt h_9) (equalObjs_c (M := M) w3 _ _ _ _ _ _ _ _ (h2.on e0_3) (h4.on e0_3) (by omega) (by omega)) en49 rfl rfl (fun v_10 w4 s4 q_11 => ?_)
            have e0_4 : Evo M w w4 := e0_3.trans s4.no
            have e1_4 : Evo M w1 w4 := e1_3.trans s4.no
            have e2_4 : Evo M w2 w4 := e2_3.trans s4.no
            have z4 : Evo No w w4 := z3.trans s4.no
            obtain rfl := q_11
            refine q_pick_bt (v := .bool (decide (x.objects = y.objects))) rfl rfl h_9 rfl ?_
            refine q_assign (v := .bool (decide (x.objects = y.objects))) rfl rfl ?_
            refine done ?_
            refine thenN ?_
            refine wp_ret ?_
            refine ret1v (.bool (decide (x.objects = y.objects))) rfl rfl ?_
            exact ⟨z4, by simp [Mani.eqIff, *]⟩
          · skip
            have h_9p := of_decide_eq_false h_9
            refine q_no (gft h_9) ?_
            refine l_no (gft h_9) ?_
            refine q_no (gft h_9) ?_
            refine l_no (gft h_9) ?_
            refine l_no (gft h_9) ?_
            refine q_pick_bf (v := .bool false) rfl rfl h_9 rfl ?_
            refine q_assign (v := .bool false) rfl rfl ?_
            refine done ?_
            refine thenN ?_
            refine wp_ret ?_
            refine ret1v (.bool false) rfl rfl ?_
            exact ⟨z3, by simp [Mani.eqIff, *]⟩
        · skip
          have h_6p := of_decide_eq_false h_6
          refine q_no (gft h_6) ?_
          refine l_no (gft h_6) ?_
          refine q_no (gft h_6) ?_
          refine l_no (gft h_6) ?_
          refine l_no (gft h_6) ?_
          refine q_pick_bf (v := .bool false) rfl rfl h_6 rfl ?_
          refine q_move (v := .bool false) rfl rfl ?_
          refine q_no rfl ?_
          refine l_no rfl ?_
          refine q_no rfl ?_
          refine l_no rfl ?_
          refine l_no rfl ?_
          refine q_pick_f (v := .bool false) rfl rfl rfl ?_
          refine q_assign (v := .bool false) rfl rfl ?_
          refine done ?_
          refine thenN ?_
          refine wp_ret ?_
          refine ret1v (.bool false) rfl rfl ?_
          exact ⟨z2, by simp [Mani.eqIff, *]⟩
      · skip
        have h_5p := of_decide_eq_false h_5
        refine q_no (gft h_5) ?_
        refine l_no (gft h_5) ?_
        refine q_no (gft h_5) ?_
        refine l_no (gft h_5) ?_
        refine q_no (gft h_5) ?_
        refine q_pick_bf (v := .bool false) rfl rfl h_5 rfl ?_
        refine q_move (v := .bool false) rfl rfl ?_
        refine q_no rfl ?_
        refine l_no rfl ?_
        refine q_no rfl ?_
        refine l_no rfl ?_
        refine l_no rfl ?_
        refine q_pick_f (v := .bool false) rfl rfl rfl ?_
        refine q_move (v := .bool false) rfl rfl ?_
        refine q_no rfl ?_
        refine l_no rfl ?_
        refine q_no rfl ?_
        refine l_no rfl ?_
        refine l_no rfl ?_
        refine q_pick_f (v := .bool false) rfl rfl rfl ?_
        refine q_assign (v := .bool false) rfl rfl ?_
        refine done ?_
        refine thenN ?_
        refine wp_ret ?_
        refine ret1v (.bool false) rfl rfl ?_
        exact ⟨z2, by simp [Mani.eqIff, *]⟩
    · skip
      have h_4p := of_decide_eq_false h_4
      refine q_no (gft h_4) ?_
      refine l_no (gft h_4) ?_
      refine q_no (gft h_4) ?_
      refine l_no (gft h_4) ?_
      refine q_no (gft h_4) ?_
      refine q_pick_bf (v := .bool false) rfl rfl h_4 rfl ?_
      refine q_move (v := .bool false) rfl rfl ?_
      refine q_no rfl ?_
      refine l_no rfl ?_
      refine q_no rfl ?_
      refine l_no rfl ?_
      refine q_no rfl ?_
      refine q_pick_f (v := .bool false) rfl rfl rfl ?_
      refine q_move (v := .bool false) rfl rfl ?_
      refine q_no rfl ?_
      refine l_no rfl ?_
      refine q_no rfl ?_
      refine l_no rfl ?_
      refine l_no rfl ?_
      refine q_pick_f (v := .bool false) rfl rfl rfl ?_
      refine q_move (v := .bool false) rfl rfl ?_
      refine q_no rfl ?_
      refine l_no rfl ?_
      refine q_no rfl ?_
      refine l_no rfl ?_
      refine l_no rfl ?_
      refine q_pick_f (v := .bool false) rfl rfl rfl ?_
      refine q_assign (v := .bool false) rfl rfl ?_
      refine done ?_
      refine thenN ?_
      refine wp_ret ?_
      refine ret1v (.bool false) rfl rfl ?_
      exact ⟨z2, by simp [Mani.eqIff, *]⟩
  · skip
    have h_3p := of_decide_eq_false h_3
    refine q_no (gft h_3) ?_
    refine l_no (gft h_3) ?_
    refine q_no (gft h_3) ?_
    refine l_no (gft h_3) ?_
    refine q_no (gft h_3) ?_
    refine q_pick_bf (v := .bool false) rfl rfl h_3 rfl ?_
    refine q_move (v := .bool false) rfl rfl ?_
    refine q_no rfl ?_
    refine l_no rfl ?_
    refine q_no rfl ?_
    refine l_no rfl ?_
    refine q_no rfl ?_
    refine q_pick_f (v := .bool false) rfl rfl rfl ?_
    refine q_move (v := .bool false) rfl rfl ?_
    refine q_no rfl ?_
    refine l_no rfl ?_
    refine q_no rfl ?_
    refine l_no rfl ?_
    refine q_no rfl ?_
    refine q_pick_f (v := .bool false) rfl rfl rfl ?_
    refine q_move (v := .bool false) rfl rfl ?_
    refine q_no rfl ?_
    refine l_no rfl ?_
    refine q_no rfl ?_
    refine l_no rfl ?_
    refine l_no rfl ?_
    refine q_pick_f (v := .bool false) rfl rfl rfl ?_
    refine q_move (v := .bool false) rfl rfl ?_
    refine q_no rfl ?_
    refine l_no rfl ?_
    refine q_no rfl ?_
    refine l_no rfl ?_
    refine l_no rfl ?_
    refine q_pick_f (v := .bool false) rfl rfl rfl ?_
    refine q_assign (v := .bool false) rfl rfl ?_
    refine done ?_
    refine thenN ?_
    refine wp_ret ?_
    refine ret1v (.bool false) rfl rfl ?_
    exact ⟨z2, by simp [Mani.eqIff, *]⟩

theorem maniClone_c {M : Nat → Prop} (w : World) (hM : Old M w) (x : Mani) (ea : Option Addr) (an ac : Nat) (ob : Option Addr) (bn bc : Nat) (h1 : At M w (Sl 2 (x.epochs.map encP) ea an ac)) (h2 : At M w (Sl 3 (x.objects.map encO) ob bn bc)) (aN : an ≤ 1048576) (bN : bn ≤ 1048576) :
    Calls Tryd.prog 24 (List.toArray [.agg (List.toArray [.int .i64 x.id, .int .i64 x.base, .int .i64 x.end_, .int .i64 x.time, .slice ea an ac, .slice ob bn bc])]) w (Ret No w fun v w9 => ∃ cs, v = .agg (List.toArray cs) ∧ At M w9 (Mrd x cs)) := by
  refine enter (n := 12) [(0, .agg (List.toArray [.int .i64 x.id, .int .i64 x.base, .int .i64 x.end_, .int .i64 x.time, .slice ea an ac, .slice ob bn bc]))] Tryd.func24 rfl (by kernel_rfl) ?_
  refine seq ?_
  refine region [false, false] ?_
  refine l_boxM (M := M) Keep.any hM rfl rfl (fun k_1 w1 s1 ck_1 nk_1 ok_1 => ?_)
  have lk_1_0 : w.heap.size ≤ k_1 := Nat.le_trans (Evo.refl M _).size nk_1
  have lk_1_w : w.heap.size ≤ k_1 := nk_1
  have e0_1 : Evo M w w1 := s1.no
  have z1 : Evo No w w1 := s1.no
  have hlk_1 := ck_1.lt
  refine l_alloc (M := (Plus M k_1)) Keep.any ok_1 rfl ze31 (fun k_2 w2 s2 ck_2 nk_2 ok_2 => ?_)
  have lk_2_0 : w.heap.size ≤ k_2 := Nat.le_trans e0_1.size nk_2
  have lk_2_1 : w1.heap.size ≤ k_2 := Nat.le_trans (Evo.refl (Plus M k_1) _).size nk_2
  have lk_2_w : w.heap.size ≤ k_2 := Nat.le_trans z1.size nk_2
  have hlk_1_k_2 := ck_1.lt
  have e0_2 : Evo M w w2 := e0_1.trans s2.no
  have e1_2 : Evo (Plus M k_1) w1 w2 := s2.no
  have z2 : Evo No w w2 := z1.trans s2.no
  have c_3 := ck_1.no s2
  have hlk_2 := ck_2.lt
  refine done ?_
  refine thenN ?_
  refine seq ?_
  refine regionD (· = k_1) (.q 0 (.q 3 (.fork (.l 1 (.fork (.l 2 (.l 4 (.q 6 (.l 5 (.l 7 (.q 8 (.l 9 (.nil)))))))) (.l 4 (.l 2 (.q 6 (.l 5 (.l 7 (.q 8 (.l 9 (.nil)))))))))) (.l 4 (.l 1 (.l 2 (.q 6 (.l 5 (.l 7 (.q 8 (.l 9 (.nil)))))))))))) mixed (by kernel_rfl) (by kernel_rfl) (by kernel_rfl) (fun w3 s3 => ?_)
  have e0_3 : Evo M w w3 := e0_2.trans s3.no
  have e1_3 : Evo (Plus M k_1) w1 w3 := e1_2.trans s3.no
  have e2_3 : Evo (Plus (Plus M k_1) k_2) w2 w3 := s3.no
  have z3 : Evo No w w3 := z2.trans s3.no
  have c_4 := c_3.no s3
  have c_5 := ck_2.no s3
  have rgr_6_3 : Evo (· = k_1) w2 w3 := s3.no
  refine q_fieldAddr rfl rfl fl31_4 ?_
  refine q_fieldAddr rfl rfl fl31_5 ?_
  refine fork ?_ ?_
  · skip
    refine l_loadB rgr_6_3 rfl rfl pl28 c_4 rfl ?_
    refine fork ?_ ?_
    · skip
      refine l_call (Keep.evo rgr_6_3 noX) rfl (clonePairs_c (M := (Plus (Plus M k_1) k_2)) w3 (ok_2.on e2_3) _ ea an ac (At.up (N := (Plus (Plus M k_1) k_2)) h1 e0_3 (fun x0 h1 h0 => by rcases h0 with ((h0 | h0) | h0) <;> first | exact h0 | omega)) (by omega)) en50 rfl rfl (fun v_10 w4 s4 q_11 => ?_)
      have e0_4 : Evo M w w4 := e0_3.trans s4.no
      have e1_4 : Evo (Plus M k_1) w1 w4 := e1_3.trans s4.no
      have e2_4 : Evo (Plus (Plus M k_1) k_2) w2 w4 := e2_3.trans s4.no
      have z4 : Evo No w w4 := z3.trans s4.no
      have c_12 := c_4.no s4
      have c_13 := c_5.no s4
      have rgr_6_4 : Evo (· = k_1) w2 w4 := rgr_6_3.trans s4.no
      obtain ⟨a_7, c_8, rfl, r_9⟩ := q_11
      refine l_loadB rgr_6_4 rfl rfl pl29 c_12 rfl ?_
      refine q_fieldAddr rfl rfl fl31_4 ?_
      refine l_call (Keep.evo rgr_6_4 noX) rfl (cloneObjs_c (M := (Plus (Plus M k_1) k_2)) w4 (ok_2.on e2_4) _ ob bn bc (At.up (N := (Plus (Plus M k_1) k_2)) h2 e0_4 (fun x0 h1 h0 => by rcases h0 with ((h0 | h0) | h0) <;> first | exact h0 | omega)) (by omega)) en51 rfl rfl (fun v_17 w5 s5 q_18 => ?_)
      have e0_5 : Evo M w w5 := e0_4.trans s5.no
      have e1_5 : Evo (Plus M k_1) w1 w5 := e1_4.trans s5.no
      have e2_5 : Evo (Plus (Plus M k_1) k_2) w2 w5 := e2_4.trans s5.no
      have e4_5 : Evo (Plus (Plus M k_1) k_2) w4 w5 := s5.no
      have z5 : Evo No w w5 := z4.trans s5.no
      have c_19 := c_12.no s5
      have c_20 := c_13.no s5
      have rgr_6_5 : Evo (· = k_1) w2 w5 := rgr_6_4.trans s5.no
      obtain ⟨a_14, c_15, rfl, r_16⟩ := q_18
      refine l_store (Keep.evo rgr_6_5 (inX rfl)) rfl rfl c_19 rfl sz28 rfl (Nat.le_of_ble_eq_true rfl) rfl (cs' := [.int .i64 x.id, .int .i64 x.base, .int .i64 x.end_, .int .i64 x.time, .slice a_7 an c_8, .slice ob bn bc]) rfl (fun w6 s6 c_21 => ?_)
      have e0_6 : Evo M w w6 := e0_5.fresh s6 lk_1_0
      have e1_6 : Evo (Plus M k_1) w1 w6 := e1_5.fstep s6 (inX Plus.in)
      have e2_6 : Evo (Plus (Plus M k_1) k_2) w2 w6 := e2_5.fstep s6 (inX (Plus.old Plus.in))
      have e4_6 : Evo (Plus (Plus M k_1) k_2) w4 w6 := e4_5.fstep s6 (inX (Plus.old Plus.in))
      have e5_6 : Evo (Plus (Plus M k_1) k_2) w5 w6 := (Evo.refl (Plus (Plus M k_1) k_2) _).fstep s6 (inX (Plus.old Plus.in))
      have z6 : Evo No w w6 := z5.fresh s6 lk_1_w
      have c_22 := c_20.on s6 (by first | omega | (intro h0; subst h0; omega))
      have rgr_6_6 : Evo (· = k_1) w2 w6 := rgr_6_5.fstep s6 (inX rfl)
      refine q_fieldAddr rfl rfl fl31_5 ?_
      refine l_store (Keep.evo rgr_6_6 (inX rfl)) rfl rfl c_21 rfl sz29 rfl (Nat.le_of_ble_eq_true rfl) rfl (cs' := [.int .i64 x.id, .int .i64 x.base, .int .i64 x.end_, .int .i64 x.time, .slice a_7 an c_8, .slice a_14 bn c_15]) rfl (fun w7 s7 c_23 => ?_)
      have e0_7 : Evo M w w7 := e0_6.fresh s7 lk_1_0
      have e1_7 : Evo (Plus M k_1) w1 w7 := e1_6.fstep s7 (inX Plus.in)
      have e2_7 : Evo (Plus (Plus M k_1) k_2) w2 w7 := e2_6.fstep s7 (inX (Plus.old Plus.in))
      have e4_7 : Evo (Plus (Plus M k_1) k_2) w4 w7 := e4_6.fstep s7 (inX (Plus.old Plus.in))
      have e5_7 : Evo (Plus (Plus M k_1) k_2) w5 w7 := e5_6.fstep s7 (inX (Plus.old Plus.in))
      have z7 : Evo No w w7 := z6.fresh s7 lk_1_w
      have c_24 := c_22.on s7 (by first | omega | (intro h0; subst h0; omega))
      have rgr_6_7 : Evo (· = k_1) w2 w7 := rgr_6_6.fstep s7 (inX rfl)
      refine done ?_
      refine thenN ?_
      refine seq ?_
      refine region [false, false] ?_
      refine l_loadBN ([.int .i64 x.id, .int .i64 x.base, .int .i64 x.end_, .int .i64 x.time, .slice a_7 an c_8, .slice a_14 bn c_15]) trivial rfl rfl ag31 rfl c_23 rfl ?_
      refine l_store Keep.any rfl rfl c_24 rfl sz31 rfl (Nat.le_of_ble_eq_true rfl) rfl (cs' := [.int .i64 x.id, .int .i64 x.base, .int .i64 x.end_, .int .i64 x.time, .slice a_7 an c_8, .slice a_14 bn c_15]) rfl (fun w8 s8 c_25 => ?_)
      have e0_8 : Evo M w w8 := e0_7.fresh s8 lk_2_0
      have e1_8 : Evo (Plus M k_1) w1 w8 := e1_7.fresh s8 lk_2_1
      have e2_8 : Evo (Plus (Plus M k_1) k_2) w2 w8 := e2_7.fstep s8 (inX Plus.in)
      have e4_8 : Evo (Plus (Plus M k_1) k_2) w4 w8 := e4_7.fstep s8 (inX Plus.in)
      have e5_8 : Evo (Plus (Plus M k_1) k_2) w5 w8 := e5_7.fstep s8 (inX Plus.in)
      have z8 : Evo No w w8 := z7.fresh s8 lk_2_w
      have c_26 := c_23.on s8 (by first | omega | (intro h0; subst h0; omega))
      refine done ?_
      refine thenN ?_
      refine wp_ret ?_
      refine retCell (Q := fun _ _ _ => True) rfl rfl ag31 c_25 rfl ?_
      exact ⟨z8, _, rfl, Mrd.mk (At.to (r_9.on e4_8) (fun _ _ h => .inl (.inl h))) (At.to (r_16.on e5_8) (fun _ _ h => .inl (.inl h))) aN bN⟩
    · skip
      refine l_loadB rgr_6_3 rfl rfl pl29 c_4 rfl ?_
      refine l_call (Keep.evo rgr_6_3 noX) rfl (clonePairs_c (M := (Plus (Plus M k_1) k_2)) w3 (ok_2.on e2_3) _ ea an ac (At.up (N := (Plus (Plus M k_1) k_2)) h1 e0_3 (fun x0 h1 h0 => by rcases h0 with ((h0 | h0) | h0) <;> first | exact h0 | omega)) (by omega)) en50 rfl rfl (fun v_30 w4 s4 q_31 => ?_)
      have e0_4 : Evo M w w4 := e0_3.trans s4.no
      have e1_4 : Evo (Plus M k_1) w1 w4 := e1_3.trans s4.no
      have e2_4 : Evo (Plus (Plus M k_1) k_2) w2 w4 := e2_3.trans s4.no
      have z4 : Evo No w w4 := z3.trans s4.no
      have c_32 := c_4.no s4
      have c_33 := c_5.no s4
      have rgr_6_4 : Evo (· = k_1) w2 w4 := rgr_6_3.trans s4.no
      obtain ⟨a_27, c_28, rfl, r_29⟩ := q_31
      refine q_fieldAddr rfl rfl fl31_4 ?_
      refine l_call (Keep.evo rgr_6_4 noX) rfl (cloneObjs_c (M := (Plus (Plus M k_1) k_2)) w4 (ok_2.on e2_4) _ ob bn bc (At.up (N := (Plus (Plus M k_1) k_2)) h2 e0_4 (fun x0 h1 h0 => by rcases h0 with ((h0 | h0) | h0) <;> first | exact h0 | omega)) (by omega)) en51 rfl rfl (fun v_37 w5 s5 q_38 => ?_)
      have e0_5 : Evo M w w5 := e0_4.trans s5.no
      have e1_5 : Evo (Plus M k_1) w1 w5 := e1_4.trans s5.no
      have e2_5 : Evo (Plus (Plus M k_1) k_2) w2 w5 := e2_4.trans s5.no
      have e4_5 : Evo (Plus (Plus M k_1) k_2) w4 w5 := s5.no
      have z5 : Evo No w w5 := z4.trans s5.no
      have c_39 := c_32.no s5
      have c_40 := c_33.no s5
      have rgr_6_5 : Evo (· = k_1) w2 w5 := rgr_6_4.trans s5.no
      obtain ⟨a_34, c_35, rfl, r_36⟩ := q_38
      refine l_store (Keep.evo rgr_6_5 (inX rfl)) rfl rfl c_39 rfl sz28 rfl (Nat.le_of_ble_eq_true rfl) rfl (cs' := [.int .i64 x.id, .int .i64 x.base, .int .i64 x.end_, .int .i64 x.time, .slice a_27 an c_28, .slice ob bn bc]) rfl (fun w6 s6 c_41 => ?_)
      have e0_6 : Evo M w w6 := e0_5.fresh s6 lk_1_0
      have e1_6 : Evo (Plus M k_1) w1 w6 := e1_5.fstep s6 (inX Plus.in)
      have e2_6 : Evo (Plus (Plus M k_1) k_2) w2 w6 := e2_5.fstep s6 (inX (Plus.old Plus.in))
      have e4_6 : Evo (Plus (Plus M k_1) k_2) w4 w6 := e4_5.fstep s6 (inX (Plus.old Plus.in))
      have e5_6 : Evo (Plus (Plus M k_1) k_2) w5 w6 := (Evo.refl (Plus (Plus M k_1) k_2) _).fstep s6 (inX (Plus.old Plus.in))
      have z6 : Evo No w w6 := z5.fresh s6 lk_1_w
      have c_42 := c_40.on s6 (by first | omega | (intro h0; subst h0; omega))
      have rgr_6_6 : Evo (· = k_1) w2 w6 := rgr_6_5.fstep s6 (inX rfl)
      refine q_fieldAddr rfl rfl fl31_5 ?_
      refine l_store (Keep.evo rgr_6_6 (inX rfl)) rfl rfl c_41 rfl sz29 rfl (Nat.le_of_ble_eq_true rfl) rfl (cs' := [.int .i64 x.id, .int .i64 x.base, .int .i64 x.end_, .int .i64 x.time, .slice a_27 an c_28, .slice a_34 bn c_35]) rfl (fun w7 s7 c_43 => ?_)
      have e0_7 : Evo M w w7 := e0_6.fresh s7 lk_1_0
      have e1_7 : Evo (Plus M k_1) w1 w7 := e1_6.fstep s7 (inX Plus.in)
      have e2_7 : Evo (Plus (Plus M k_1) k_2) w2 w7 := e2_6.fstep s7 (inX (Plus.old Plus.in))
      have e4_7 : Evo (Plus (Plus M k_1) k_2) w4 w7 := e4_6.fstep s7 (inX (Plus.old Plus.in))
      have e5_7 : Evo (Plus (Plus M k_1) k_2) w5 w7 := e5_6.fstep s7 (inX (Plus.old Plus.in))
      have z7 : Evo No w w7 := z6.fresh s7 lk_1_w
      have c_44 := c_42.on s7 (by first | omega | (intro h0; subst h0; omega))
      have rgr_6_7 : Evo (· = k_1) w2 w7 := rgr_6_6.fstep s7 (inX rfl)
      refine done ?_
      refine thenN ?_
      refine seq ?_
      refine region [false, false] ?_
      refine l_loadBN ([.int .i64 x.id, .int .i64 x.base, .int .i64 x.end_, .int .i64 x.time, .slice a_27 an c_28, .slice a_34 bn c_35]) trivial rfl rfl ag31 rfl c_43 rfl ?_
      refine l_store Keep.any rfl rfl c_44 rfl sz31 rfl (Nat.le_of_ble_eq_true rfl) rfl (cs' := [.int .i64 x.id, .int .i64 x.base, .int .i64 x.end_, .int .i64 x.time, .slice a_27 an c_28, .slice a_34 bn c_35]) rfl (fun w8 s8 c_45 => ?_)
      have e0_8 : Evo M w w8 := e0_7.fresh s8 lk_2_0
      have e1_8 : Evo (Plus M k_1) w1 w8 := e1_7.fresh s8 lk_2_1
      have e2_8 : Evo (Plus (Plus M k_1) k_2) w2 w8 := e2_7.fstep s8 (inX Plus.in)
      have e4_8 : Evo (Plus (Plus M k_1) k_2) w4 w8 := e4_7.fstep s8 (inX Plus.in)
      have e5_8 : Evo (Plus (Plus M k_1) k_2) w5 w8 := e5_7.fstep s8 (inX Plus.in)
      have z8 : Evo No w w8 := z7.fresh s8 lk_2_w
      have c_46 := c_43.on s8 (by first | omega | (intro h0; subst h0; omega))
      refine done ?_
      refine thenN ?_
      refine wp_ret ?_
      refine retCell (Q := fun _ _ _ => True) rfl rfl ag31 c_45 rfl ?_
      exact ⟨z8, _, rfl, Mrd.mk (At.to (r_29.on e4_8) (fun _ _ h => .inl (.inl h))) (At.to (r_36.on e5_8) (fun _ _ h => .inl (.inl h))) aN bN⟩
  · skip
    refine l_loadB rgr_6_3 rfl rfl pl29 c_4 rfl ?_
    refine l_loadB rgr_6_3 rfl rfl pl28 c_4 rfl ?_
    refine l_call (Keep.evo rgr_6_3 noX) rfl (clonePairs_c (M := (Plus (Plus M k_1) k_2)) w3 (ok_2.on e2_3) _ ea an ac (At.up (N := (Plus (Plus M k_1) k_2)) h1 e0_3 (fun x0 h1 h0 => by rcases h0 with ((h0 | h0) | h0) <;> first | exact h0 | omega)) (by omega)) en50 rfl rfl (fun v_50 w4 s4 q_51 => ?_)
    have e0_4 : Evo M w w4 := e0_3.trans s4.no
    have e1_4 : Evo (Plus M k_1) w1 w4 := e1_3.trans s4.no
    have e2_4 : Evo (Plus (Plus M k_1) k_2) w2 w4 := e2_3.trans s4.no
    have z4 : Evo No w w4 := z3.trans s4.no
    have c_52 := c_4.no s4
    have c_53 := c_5.no s4
    have rgr_6_4 : Evo (· = k_1) w2 w4 := rgr_6_3.trans s4.no
    obtain ⟨a_47, c_48, rfl, r_49⟩ := q_51
    refine q_fieldAddr rfl rfl fl31_4 ?_
    refine l_call (Keep.evo rgr_6_4 noX) rfl (cloneObjs_c (M := (Plus (Plus M k_1) k_2)) w4 (ok_2.on e2_4) _ ob bn bc (At.up (N := (Plus (Plus M k_1) k_2)) h2 e0_4 (fun x0 h1 h0 => by rcases h0 with ((h0 | h0) | h0) <;> first | exact h0 | omega)) (by omega)) en51 rfl rfl (fun v_57 w5 s5 q_58 => ?_)
    have e0_5 : Evo M w w5 := e0_4.trans s5.no
    have e1_5 : Evo (Plus M k_1) w1 w5 := e1_4.trans s5.no
    have e2_5 : Evo (Plus (Plus M k_1) k_2) w2 w5 := e2_4.trans s5.no
    have e4_5 : Evo (Plus (Plus M k_1) k_2) w4 w5 := s5.no
    have z5 : Evo No w w5 := z4.trans s5.no
    have c_59 := c_52.no s5
    have c_60 := c_53.no s5
    have rgr_6_5 : Evo (· = k_1) w2 w5 := rgr_6_4.trans s5.no
    obtain ⟨a_54, c_55, rfl, r_56⟩ := q_58
    refine l_store (Keep.evo rgr_6_5 (inX rfl)) rfl rfl c_59 rfl sz28 rfl (Nat.le_of_ble_eq_true rfl) rfl (cs' := [.int .i64 x.id, .int .i64 x.base, .int .i64 x.end_, .int .i64 x.time, .slice a_47 an c_48, .slice ob bn bc]) rfl (fun w6 s6 c_61 => ?_)
    have e0_6 : Evo M w w6 := e0_5.fresh s6 lk_1_0
    have e1_6 : Evo (Plus M k_1) w1 w6 := e1_5.fstep s6 (inX Plus.in)
    have e2_6 : Evo (Plus (Plus M k_1) k_2) w2 w6 := e2_5.fstep s6 (inX (Plus.old Plus.in))
    have e4_6 : Evo (Plus (Plus M k_1) k_2) w4 w6 := e4_5.fstep s6 (inX (Plus.old Plus.in))
    have e5_6 : Evo (Plus (Plus M k_1) k_2) w5 w6 := (Evo.refl (Plus (Plus M k_1) k_2) _).fstep s6 (inX (Plus.old Plus.in))
    have z6 : Evo No w w6 := z5.fresh s6 lk_1_w
    have c_62 := c_60.on s6 (by first | omega | (intro h0; subst h0; omega))
    have rgr_6_6 : Evo (· = k_1) w2 w6 := rgr_6_5.fstep s6 (inX rfl)
    refine q_fieldAddr rfl rfl fl31_5 ?_
    refine l_store (Keep.evo rgr_6_6 (inX rfl)) rfl rfl c_61 rfl sz29 rfl (Nat.le_of_ble_eq_true rfl) rfl (cs' := [.int .i64 x.id, .int .i64 x.base, .int .i64 x.end_, .int .i64 x.time, .slice a_47 an c_48, .slice a_54 bn c_55]) rfl (fun w7 s7 c_63 => ?_)
    have e0_7 : Evo M w w7 := e0_6.fresh s7 lk_1_0
    have e1_7 : Evo (Plus M k_1) w1 w7 := e1_6.fstep s7 (inX Plus.in)
    have e2_7 : Evo (Plus (Plus M k_1) k_2) w2 w7 := e2_6.fstep s7 (inX (Plus.old Plus.in))
    have e4_7 : Evo (Plus (Plus M k_1) k_2) w4 w7 := e4_6.fstep s7 (inX (Plus.old Plus.in))
    have e5_7 : Evo (Plus (Plus M k_1) k_2) w5 w7 := e5_6.fstep s7 (inX (Plus.old Plus.in))
    have z7 : Evo No w w7 := z6.fresh s7 lk_1_w
    have c_64 := c_62.on s7 (by first | omega | (intro h0; subst h0; omega))
    have rgr_6_7 : Evo (· = k_1) w2 w7 := rgr_6_6.fstep s7 (inX rfl)
    refine done ?_
    refine thenN ?_
    refine seq ?_
    refine region [false, false] ?_
    refine l_loadBN ([.int .i64 x.id, .int .i64 x.base, .int .i64 x.end_, .int .i64 x.time, .slice a_47 an c_48, .slice a_54 bn c_55]) trivial rfl rfl ag31 rfl c_63 rfl ?_
    refine l_store Keep.any rfl rfl c_64 rfl sz31 rfl (Nat.le_of_ble_eq_true rfl) rfl (cs' := [.int .i64 x.id, .int .i64 x.base, .int .i64 x.end_, .int .i64 x.time, .slice a_47 an c_48, .slice a_54 bn c_55]) rfl (fun w8 s8 c_65 => ?_)
    have e0_8 : Evo M w w8 := e0_7.fresh s8 lk_2_0
    have e1_8 : Evo (Plus M k_1) w1 w8 := e1_7.fresh s8 lk_2_1
    have e2_8 : Evo (Plus (Plus M k_1) k_2) w2 w8 := e2_7.fstep s8 (inX Plus.in)
    have e4_8 : Evo (Plus (Plus M k_1) k_2) w4 w8 := e4_7.fstep s8 (inX Plus.in)
    have e5_8 : Evo (Plus (Plus M k_1) k_2) w5 w8 := e5_7.fstep s8 (inX Plus.in)
    have z8 : Evo No w w8 := z7.fresh s8 lk_2_w
    have c_66 := c_63.on s8 (by first | omega | (intro h0; subst h0; omega))
    refine done ?_
    refine thenN ?_
    refine wp_ret ?_
    refine retCell (Q := fun _ _ _ => True) rfl rfl ag31 c_65 rfl ?_
    exact ⟨z8, _, rfl, Mrd.mk (At.to (r_49.on e4_8) (fun _ _ h => .inl (.inl h))) (At.to (r_56.on e5_8) (fun _ _ h => .inl (.inl h))) aN bN⟩
end Go.Proofs.YtnkafkikjcgogaaDoor
