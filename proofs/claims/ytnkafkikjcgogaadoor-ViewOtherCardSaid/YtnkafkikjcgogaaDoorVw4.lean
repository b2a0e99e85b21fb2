import Derived.Test.YtnkafkikjcgogaaDoorSxf
import Derived.Test.YtnkafkikjcgogaaDoorF4
import Derived.Test.YtnkafkikjcgogaaDoorProg
import Derived.Test.YtnkafkikjcgogaaDoorVmod
import Derived.Test.YtnkafkikjcgogaaDoorVw1
import Derived.Test.YtnkafkikjcgogaaDoorVw2
import Derived.Test.YtnkafkikjcgogaaDoorVw3
set_option linter.unusedVariables false
set_option linter.unusedSimpArgs false
set_option maxRecDepth 4000
set_option maxHeartbeats 2000000
namespace Go.Proofs.YtnkafkikjcgogaaDoor
open Go.Sx F4

theorem vState_c {M : Nat → Prop} (w : World) (hM : Old M w) (bv bm : Nat) (l : List (Int × Mani)) (V : Vw M bv bm l w) (id : Int) :
    Calls Tryd.prog 14 (List.toArray [.pointer (some ⟨bv, 0, none⟩), .int .i64 id]) w (Ret No w fun v _ => v = .int .i64 (stateOf l id)) := by
  refine enter (n := 12) [(0, .pointer (some ⟨bv, 0, none⟩)), (1, .int .i64 id)] Tryd.func14 rfl (by kernel_rfl) ?_
  obtain ⟨L, hL, hR⟩ := V.map
  have hmlt := hL.lt
  refine seq ?_
  refine region [true] ?_
  refine q_assign (v := .int .i64 0) rfl rfl ?_
  refine done ?_
  refine thenN ?_
  refine seq ?_
  refine region [true, true, true, false, true, false, true, true] ?_
  refine q_move (v := .pointer (some ⟨bv, 0, none⟩)) rfl rfl ?_
  refine q_nilCheck rfl rfl ?_
  refine q_fieldAddr rfl rfl fl55_0 ?_
  refine l_loadB trivial rfl rfl pl53 (V.blk.now (Evo.refl M _)) rfl ?_
  refine q_move (v := .int .i64 id) rfl rfl ?_
  rcases vasc id hR with ⟨ua_1, aa_1⟩ | ⟨qa_1, csa_1, ua_1, aa_1, ma_1⟩
  · skip
    refine l_lookup (v := .agg (List.toArray [.int .i64 0, .int .i64 0, .int .i64 0, .int .i64 0, .int .i64 0, .slice none 0 0, .slice none 0 0])) trivial rfl rfl rfl ma53 hL zv64 (by rw [aa_1]; rfl) ?_
    refine q_field (v := .int .i64 0) rfl rfl fp64_0 rfl ?_
    refine q_assign (v := .int .i64 0) rfl rfl ?_
    refine done ?_
    refine thenN ?_
    refine wp_ret ?_
    refine ret1v (.int .i64 0) rfl rfl ?_
    exact ⟨Evo.refl _ _, by unfold stateOf; rw [ua_1]; rfl⟩
  · skip
    obtain ⟨eam_2, enm_2, ecm_2, oam_2, onm_2, ocm_2, rfl, eNm_2, oNm_2, hem_2, hom_2⟩ := Mrd.open ma_1
    refine l_lookup (v := .agg (List.toArray [.int .i64 qa_1.1, .int .i64 qa_1.2.id, .int .i64 qa_1.2.base, .int .i64 qa_1.2.end_, .int .i64 qa_1.2.time, .slice eam_2 enm_2 ecm_2, .slice oam_2 onm_2 ocm_2])) trivial rfl rfl rfl ma53 hL zv64 (by rw [aa_1]; rfl) ?_
    refine q_field (v := .int .i64 qa_1.1) rfl rfl fp64_0 rfl ?_
    refine q_assign (v := .int .i64 qa_1.1) rfl rfl ?_
    refine done ?_
    refine thenN ?_
    refine wp_ret ?_
    refine ret1v (.int .i64 qa_1.1) rfl rfl ?_
    exact ⟨Evo.refl _ _, by unfold stateOf; rw [ua_1]; rfl⟩

theorem vNew_c {M : Nat → Prop} (w : World) (hM : Old M w) :
    Calls Tryd.prog 7 (List.toArray []) w (Ret No w fun v w9 => ∃ bv bm, v = .pointer (some ⟨bv, 0, none⟩) ∧ w.heap.size ≤ bm ∧ Vw (Plus M bm) bv bm [] w9 ∧ Old (Plus M bm) w9) := by
  refine enter (n := 4) [] Tryd.func7 rfl (by kernel_rfl) ?_
  refine seq ?_
  refine region [true] ?_
  refine q_assign (v := .pointer none) rfl rfl ?_
  refine done ?_
  refine thenN ?_
  refine seq ?_
  refine region [false, true, false, true] ?_
  refine l_makeMap (M := M) Keep.any hM rfl (fun k_1 w1 s1 ck_1 nk_1 ok_1 => ?_)
  have lk_1_0 : w.heap.size ≤ k_1 := Nat.le_trans (Evo.refl M _).size nk_1
  have lk_1_w : w.heap.size ≤ k_1 := nk_1
  have e0_1 : Evo M w w1 := s1.no
  have z1 : Evo No w w1 := s1.no
  have hlk_1 := ck_1.lt
  refine q_build (.agg (List.toArray [.map (some k_1)])) rfl rfl (fun _ => by kernel_rfl) ?_
  refine l_box (M := (Plus M k_1)) Keep.any ok_1 rfl rfl (fun k_2 w2 s2 fk_2 nk_2 => ?_)
  have e0_2 : Evo M w w2 := e0_1.trans s2.no
  have e1_2 : Evo (Plus M k_1) w1 w2 := s2.no
  have z2 : Evo No w w2 := z1.trans s2.no
  have c_3 := ck_1.no s2
  refine q_assign (v := .pointer (some ⟨k_2, 0, none⟩)) rfl rfl ?_
  refine done ?_
  refine thenN ?_
  refine wp_ret ?_
  refine ret1v (.pointer (some ⟨k_2, 0, none⟩)) rfl rfl ?_
  exact ⟨z2, k_2, k_1, rfl, lk_1_w, ⟨.inr rfl, fk_2.on (Evo.refl (Plus M k_1) _), by simp, [], c_3, trivial⟩, ok_1.on e1_2⟩

theorem vNext_c {M : Nat → Prop} (w : World) (hM : Old M w) (bv bm : Nat) (l : List (Int × Mani)) (V : Vw M bv bm l w) :
    Calls Tryd.prog 8 (List.toArray [.pointer (some ⟨bv, 0, none⟩)]) w (Ret No w fun v _ => v = .int .i64 (nextOf l)) := by
  refine enter (n := 20) [(0, .pointer (some ⟨bv, 0, none⟩))] Tryd.func8 rfl (by kernel_rfl) ?_
  obtain ⟨L, hL, hR⟩ := V.map
  have hmlt := hL.lt
  refine seq ?_
  refine region [true] ?_
  refine q_assign (v := .int .i64 0) rfl rfl ?_
  refine done ?_
  refine thenN ?_
  refine seq ?_
  refine region [true] ?_
  refine q_assign (v := .int .i64 0) rfl rfl ?_
  refine done ?_
  refine thenN ?_
  refine seq ?_
  refine seq ?_
  refine region [true, true, true, false, false] ?_
  refine q_move (v := .pointer (some ⟨bv, 0, none⟩)) rfl rfl ?_
  refine q_nilCheck rfl rfl ?_
  refine q_fieldAddr rfl rfl fl55_0 ?_
  refine l_loadB trivial rfl rfl pl53 (V.blk.now (Evo.refl M _)) rfl ?_
  refine l_range Keep.any rfl rfl ma53 hL (fun k_1 w1 s1 ck_1 nk_1 => ?_)
  have hbk_1 := hL.lt
  have lk_1_0 : w.heap.size ≤ k_1 := Nat.le_trans (Evo.refl M _).size nk_1
  have lk_1_w : w.heap.size ≤ k_1 := nk_1
  have e0_1 : Evo M w w1 := s1.no
  have z1 : Evo No w w1 := s1.no
  have c_2 := hL.no s1
  refine done ?_
  refine thenN ?_
  refine blk ?_
  refine loopN [10, 11, 12, 13, 4, 14, 15, 16, 17, 3] (fun k9 R9 wJ => ∃ (f9 : List (Int × Value)), ∃ (lq : List (Int × Mani)), ∃ (cu : Option (Int × Value)), ∃ (x : Int), R9 = [(3, .int .i64 x)] ∧ (ItB k_1 bm L f9 cu wJ) ∧ (All2 (RV M w) f9 lq) ∧ (∀ q ∈ lq, q ∈ l) ∧ (Evo No w wJ) ∧ (nmax lq x = nmax l 0) ∧ (0 ≤ x) ∧ (x ≤ 2147483648) ∧ k9 = f9.length) ⟨_, _, ⟨L, l, none, 0, rfl, ck_1, hR, fun _ h => h, z1, rfl, Int.le_refl _, by omega, rfl⟩, ⟨(by kernel_rfl), trivial⟩⟩ (fun k9 R9 u_3 w2 J_4 => ?_)
  obtain ⟨f9, lq, cu, x, rfl, ci9, hR9, hin9, z9, hx, hx0, hx1, rfl⟩ := J_4
  have e0_2 : Evo M w w2 := z9.no
  refine seq ?_
  refine region [false, true] ?_
  refine l_next trivial Keep.any rfl rfl ci9 (fun en_5 => ?_) (fun kn_5 vn_5 fn_5 w3 pn_5 s3 cn_5 => ?_)
  · skip
    refine q_extract rfl rfl rfl ?_
    refine done ?_
    refine thenN ?_
    refine seq ?_
    refine cond_f rfl ?_
    refine wp_exit ?_
    refine thenX ?_
    refine thenX ?_
    refine blkX ?_
    refine thenN ?_
    refine seq ?_
    refine region [true, true, true] ?_
    refine q_move (v := .int .i64 x) rfl rfl ?_
    refine q_min rfl rfl rfl ?_
    refine q_assign (v := .int .i64 (if 2147483647 < x then 2147483647 else x)) rfl rfl ?_
    refine done ?_
    refine thenN ?_
    refine wp_ret ?_
    refine ret1v (.int .i64 (if 2147483647 < x then 2147483647 else x)) rfl rfl ?_
    exact ⟨z9, by unfold nextOf; rw [← hx]; subst en_5; cases lq <;> first | rfl | exact hR9.elim⟩
  · skip
    have e0_3 : Evo M w w3 := e0_2.fresh s3 lk_1_0
    have z3 : Evo No w w3 := z9.fresh s3 lk_1_w
    obtain ⟨qn_5, gn_5, Pn_5, ⟨rfl, csn_5, rfl, mn_5⟩, Rn_5⟩ := next2 hR9 pn_5
    have in_5 := hin9 qn_5 (Pn_5.mem_iff.2 (by simp))
    have bn_5 := V.ids qn_5 in_5
    obtain ⟨eam_6, enm_6, ecm_6, oam_6, onm_6, ocm_6, rfl, eNm_6, oNm_6, hem_6, hom_6⟩ := Mrd.open mn_5
    refine q_extract rfl rfl rfl ?_
    refine done ?_
    refine thenN ?_
    refine seq ?_
    refine cond_t rfl ?_
    refine wp_skip ?_
    refine thenN ?_
    refine blk ?_
    refine seq ?_
    refine region [false, true, true] ?_
    refine l_entry trivial rfl rfl cn_5 ?_
    refine q_extract rfl rfl rfl ?_
    refine q_assign (v := .int .i64 qn_5.2.id) rfl rfl ?_
    refine done ?_
    refine thenN ?_
    refine region [true, true, true, true, true] ?_
    refine q_move (v := .int .i64 x) rfl rfl ?_
    refine q_move (v := .int .i64 qn_5.2.id) rfl rfl ?_
    refine q_add rfl rfl rfl (wi64 (by omega) (by omega)) ?_
    refine q_max rfl rfl rfl ?_
    refine q_assign (v := .int .i64 (if x < qn_5.2.id + 1 then qn_5.2.id + 1 else x)) rfl rfl ?_
    refine done ?_
    refine blkN ?_
    refine thenN ?_
    have hlen := pn_5.length_eq; simp only [List.length_cons] at hlen
    refine ⟨_, _, ?_, ⟨fn_5, gn_5, _, (if x < qn_5.2.id + 1 then qn_5.2.id + 1 else x), rfl, cn_5, Rn_5, fun q h => hin9 q (Pn_5.mem_iff.2 (by simp [h])), z3, by rw [← hx, nmax_perm Pn_5]; rfl, by split <;> omega, by split <;> omega, rfl⟩, Env.near_at 21 (by kernel_rfl) (by kernel_rfl) ⟨(by kernel_rfl), trivial⟩⟩
    omega

theorem idxInts_c {M : Nat → Prop} (w : World) (xs : List Int) (a : Option Addr) (n c : Nat) (h : At M w (Sl 1 (xs.map encI) a n c)) (hn : n ≤ 2147483648) (x : Int) :
    Calls Tryd.prog 54 (List.toArray [.slice a n c, .int .i64 x]) w (Ret No w fun v _ => ∃ r : Int, v = .int .i64 r ∧ decide (0 ≤ r) = xs.any fun y => decide (x = y)) := by
  refine enter (n := 19) [(0, .slice a n c), (1, .int .i64 x)] Tryd.func54 rfl (by kernel_rfl) ?_
  refine seq ?_
  refine region [true] ?_
  refine q_assign (v := .int .i64 0) rfl rfl ?_
  refine done ?_
  refine thenN ?_
  refine seq ?_
  refine seq ?_
  refine region [true, true, true] ?_
  refine q_move (v := .slice a n c) rfl rfl ?_
  refine q_len rfl rfl el22 ?_
  refine q_move (v := .int .i64 0) rfl rfl ?_
  refine done ?_
  refine thenN ?_
  refine blk ?_
  have hl := h.here.len
  rw [List.length_map] at hl
  refine loopN [9, 10, 5, 11, 12, 13, 14, 15, 16, 17, 4, 18, 8] (fun k9 R9 wJ => ∃ (j : Nat), R9 = [(8, .int .i64 (j : Int))] ∧ (j ≤ n) ∧ (((xs.drop j).any fun y => decide (x = y)) = xs.any fun y => decide (x = y)) ∧ (Evo No w wJ) ∧ k9 = n - j) ⟨_, _, ⟨0, rfl, Nat.zero_le _, by simp, Evo.refl _ _, rfl⟩, ⟨(by kernel_rfl), trivial⟩⟩ (fun k9 R9 u_1 w1 J_2 => ?_)
  obtain ⟨j, rfl, hj, hq, z9, rfl⟩ := J_2
  have e0_1 : Evo M w w1 := z9.no
  refine seq ?_
  refine region [true] ?_
  refine q_lss rfl rfl rfl ?_
  refine done ?_
  refine thenN ?_
  refine seq ?_
  refine cond_b rfl (fun h_3 => ?_) (fun h_3 => ?_)
  · skip
    have h_3p := of_decide_eq_true h_3
    refine wp_skip ?_
    refine thenN ?_
    refine seq ?_
    refine blk ?_
    refine seq ?_
    refine region [true, true] ?_
    refine q_move (v := .int .i64 (j : Int)) rfl rfl ?_
    refine q_assign (v := .int .i64 (j : Int)) rfl rfl ?_
    refine done ?_
    refine thenN ?_
    refine seq ?_
    refine region [true, true, true, true, false, true] ?_
    refine q_move (v := .int .i64 x) rfl rfl ?_
    refine q_move (v := .slice a n c) rfl rfl ?_
    refine q_move (v := .int .i64 (j : Int)) rfl rfl ?_
    obtain ⟨x_4, hx_4⟩ := Sl.get (xs := xs) h.here (i := (j : Int)) (by omega) (by omega)
    have Ax_4 := Sl.areaAt h (Sl.map_get hx_4)
    refine q_indexS' rfl rfl rfl el22 (h.here.there (by omega)).1 (by omega) (by omega) ?_
    refine l_load trivial rfl rfl pl3 ((Ax_4.now e0_1) 0 _ rfl) ?_
    refine q_eql rfl rfl rfl ?_
    refine done ?_
    refine thenN ?_
    refine cond_b rfl (fun h_5 => ?_) (fun h_5 => ?_)
    · skip
      have h_5p := of_decide_eq_true h_5
      refine seq ?_
      refine region [true, true] ?_
      refine q_move (v := .int .i64 (j : Int)) rfl rfl ?_
      refine q_assign (v := .int .i64 (j : Int)) rfl rfl ?_
      refine done ?_
      refine thenN ?_
      refine wp_ret ?_
      refine blkR ?_
      refine thenR ?_
      refine thenR ?_
      refine blkR ?_
      refine thenR ?_
      refine ret1v (.int .i64 (j : Int)) rfl rfl ?_
      exact ⟨z9, _, rfl, by rw [← hq, drop_cons (i := j) hx_4, List.any_cons, h_5]; simp⟩
    · skip
      have h_5p := of_decide_eq_false h_5
      refine wp_skip ?_
      refine blkN ?_
      refine thenN ?_
      refine region [true, true] ?_
      refine q_add rfl rfl rfl (wi64 (by omega) (by omega)) ?_
      refine q_move (v := .int .i64 ((j : Int) + 1)) rfl rfl ?_
      refine done ?_
      refine thenN ?_
      refine ⟨_, _, ?_, ⟨j + 1, rfl, by omega, by rw [← hq, drop_cons (i := j) hx_4, List.any_cons, h_5, Bool.false_or], z9, rfl⟩, Env.near_at 25 (by kernel_rfl) (by kernel_rfl) ⟨(Eq.trans (b := Go.Value.int .i64 ((j : Int) + 1)) (by kernel_rfl) (nextI j)), trivial⟩⟩
      omega
  · skip
    have h_3p := of_decide_eq_false h_3
    refine wp_exit ?_
    refine thenX ?_
    refine thenX ?_
    refine blkX ?_
    refine thenN ?_
    refine seq ?_
    refine region [true] ?_
    refine q_assign (v := .int .i64 (-1)) rfl rfl ?_
    refine done ?_
    refine thenN ?_
    refine wp_ret ?_
    refine ret1v (.int .i64 (-1)) rfl rfl ?_
    exact ⟨z9, _, rfl, by rw [← hq, List.drop_eq_nil_of_le (by omega)]; rfl⟩

theorem hasInts_c {M : Nat → Prop} (w : World) (xs : List Int) (a : Option Addr) (n c : Nat) (h : At M w (Sl 1 (xs.map encI) a n c)) (hn : n ≤ 2147483648) (x : Int) :
    Calls Tryd.prog 27 (List.toArray [.slice a n c, .int .i64 x]) w (Ret No w fun v _ => v = .bool (xs.any fun y => decide (x = y))) := by
  refine enter (n := 9) [(0, .slice a n c), (1, .int .i64 x)] Tryd.func27 rfl (by kernel_rfl) ?_
  refine seq ?_
  refine region [true] ?_
  refine q_assign (v := .bool false) rfl rfl ?_
  refine done ?_
  refine thenN ?_
  refine seq ?_
  refine region [true, true, false, true, true] ?_
  refine q_move (v := .slice a n c) rfl rfl ?_
  refine q_move (v := .int .i64 x) rfl rfl ?_
  refine l_call Keep.any rfl (idxInts_c (M := M) w xs a n c (h.on (Evo.refl M _)) hn x) en54 rfl rfl (fun v_1 w1 s1 q_2 => ?_)
  have e0_1 : Evo M w w1 := s1.no
  have z1 : Evo No w w1 := s1.no
  obtain ⟨r, rfl, hr⟩ := q_2
  refine q_geq rfl rfl rfl ?_
  refine q_assign (v := .bool (decide (0 ≤ r))) rfl rfl ?_
  refine done ?_
  refine thenN ?_
  refine wp_ret ?_
  refine ret1v (.bool (decide (0 ≤ r))) rfl rfl ?_
  exact ⟨z1, by rw [← hr]⟩

theorem idxStrs_c {M : Nat → Prop} (w : World) (xs : List ByteArray) (a : Option Addr) (n c : Nat) (h : At M w (Sl 1 (xs.map encS) a n c)) (hn : n ≤ 2147483648) (x : ByteArray) :
    Calls Tryd.prog 58 (List.toArray [.slice a n c, .string x]) w (Ret No w fun v _ => ∃ r : Int, v = .int .i64 r ∧ decide (0 ≤ r) = xs.any fun y => decide (x = y)) := by
  refine enter (n := 19) [(0, .slice a n c), (1, .string x)] Tryd.func58 rfl (by kernel_rfl) ?_
  refine seq ?_
  refine region [true] ?_
  refine q_assign (v := .int .i64 0) rfl rfl ?_
  refine done ?_
  refine thenN ?_
  refine seq ?_
  refine seq ?_
  refine region [true, true, true] ?_
  refine q_move (v := .slice a n c) rfl rfl ?_
  refine q_len rfl rfl el76 ?_
  refine q_move (v := .int .i64 0) rfl rfl ?_
  refine done ?_
  refine thenN ?_
  refine blk ?_
  have hl := h.here.len
  rw [List.length_map] at hl
  refine loopN [9, 10, 5, 11, 12, 13, 14, 15, 16, 17, 4, 18, 8] (fun k9 R9 wJ => ∃ (j : Nat), R9 = [(8, .int .i64 (j : Int))] ∧ (j ≤ n) ∧ (((xs.drop j).any fun y => decide (x = y)) = xs.any fun y => decide (x = y)) ∧ (Evo No w wJ) ∧ k9 = n - j) ⟨_, _, ⟨0, rfl, Nat.zero_le _, by simp, Evo.refl _ _, rfl⟩, ⟨(by kernel_rfl), trivial⟩⟩ (fun k9 R9 u_1 w1 J_2 => ?_)
  obtain ⟨j, rfl, hj, hq, z9, rfl⟩ := J_2
  have e0_1 : Evo M w w1 := z9.no
  refine seq ?_
  refine region [true] ?_
  refine q_lss rfl rfl rfl ?_
  refine done ?_
  refine thenN ?_
  refine seq ?_
  refine cond_b rfl (fun h_3 => ?_) (fun h_3 => ?_)
  · skip
    have h_3p := of_decide_eq_true h_3
    refine wp_skip ?_
    refine thenN ?_
    refine seq ?_
    refine blk ?_
    refine seq ?_
    refine region [true, true] ?_
    refine q_move (v := .int .i64 (j : Int)) rfl rfl ?_
    refine q_assign (v := .int .i64 (j : Int)) rfl rfl ?_
    refine done ?_
    refine thenN ?_
    refine seq ?_
    refine region [true, true, true, true, false, true] ?_
    refine q_move (v := .string x) rfl rfl ?_
    refine q_move (v := .slice a n c) rfl rfl ?_
    refine q_move (v := .int .i64 (j : Int)) rfl rfl ?_
    obtain ⟨x_4, hx_4⟩ := Sl.get (xs := xs) h.here (i := (j : Int)) (by omega) (by omega)
    have Ax_4 := Sl.areaAt h (Sl.map_get hx_4)
    refine q_indexS' rfl rfl rfl el76 (h.here.there (by omega)).1 (by omega) (by omega) ?_
    refine l_load trivial rfl rfl pl9 ((Ax_4.now e0_1) 0 _ rfl) ?_
    refine q_strEql rfl rfl rfl ?_
    refine done ?_
    refine thenN ?_
    refine cond_b rfl (fun h_5 => ?_) (fun h_5 => ?_)
    · skip
      have h_5p := of_decide_eq_true h_5
      refine seq ?_
      refine region [true, true] ?_
      refine q_move (v := .int .i64 (j : Int)) rfl rfl ?_
      refine q_assign (v := .int .i64 (j : Int)) rfl rfl ?_
      refine done ?_
      refine thenN ?_
      refine wp_ret ?_
      refine blkR ?_
      refine thenR ?_
      refine thenR ?_
      refine blkR ?_
      refine thenR ?_
      refine ret1v (.int .i64 (j : Int)) rfl rfl ?_
      exact ⟨z9, _, rfl, by rw [← hq, drop_cons (i := j) hx_4, List.any_cons, h_5]; simp⟩
    · skip
      have h_5p := of_decide_eq_false h_5
      refine wp_skip ?_
      refine blkN ?_
      refine thenN ?_
      refine region [true, true] ?_
      refine q_add rfl rfl rfl (wi64 (by omega) (by omega)) ?_
      refine q_move (v := .int .i64 ((j : Int) + 1)) rfl rfl ?_
      refine done ?_
      refine thenN ?_
      refine ⟨_, _, ?_, ⟨j + 1, rfl, by omega, by rw [← hq, drop_cons (i := j) hx_4, List.any_cons, h_5, Bool.false_or], z9, rfl⟩, Env.near_at 25 (by kernel_rfl) (by kernel_rfl) ⟨(Eq.trans (b := Go.Value.int .i64 ((j : Int) + 1)) (by kernel_rfl) (nextI j)), trivial⟩⟩
      omega
  · skip
    have h_3p := of_decide_eq_false h_3
    refine wp_exit ?_
    refine thenX ?_
    refine thenX ?_
    refine blkX ?_
    refine thenN ?_
    refine seq ?_
    refine region [true] ?_
    refine q_assign (v := .int .i64 (-1)) rfl rfl ?_
    refine done ?_
    refine thenN ?_
    refine wp_ret ?_
    refine ret1v (.int .i64 (-1)) rfl rfl ?_
    exact ⟨z9, _, rfl, by rw [← hq, List.drop_eq_nil_of_le (by omega)]; rfl⟩

theorem hasStrs_c {M : Nat → Prop} (w : World) (xs : List ByteArray) (a : Option Addr) (n c : Nat) (h : At M w (Sl 1 (xs.map encS) a n c)) (hn : n ≤ 2147483648) (x : ByteArray) :
    Calls Tryd.prog 32 (List.toArray [.slice a n c, .string x]) w (Ret No w fun v _ => v = .bool (xs.any fun y => decide (x = y))) := by
  refine enter (n := 9) [(0, .slice a n c), (1, .string x)] Tryd.func32 rfl (by kernel_rfl) ?_
  refine seq ?_
  refine region [true] ?_
  refine q_assign (v := .bool false) rfl rfl ?_
  refine done ?_
  refine thenN ?_
  refine seq ?_
  refine region [true, true, false, true, true] ?_
  refine q_move (v := .slice a n c) rfl rfl ?_
  refine q_move (v := .string x) rfl rfl ?_
  refine l_call Keep.any rfl (idxStrs_c (M := M) w xs a n c (h.on (Evo.refl M _)) hn x) en58 rfl rfl (fun v_1 w1 s1 q_2 => ?_)
  have e0_1 : Evo M w w1 := s1.no
  have z1 : Evo No w w1 := s1.no
  obtain ⟨r, rfl, hr⟩ := q_2
  refine q_geq rfl rfl rfl ?_
  refine q_assign (v := .bool (decide (0 ≤ r))) rfl rfl ?_
  refine done ?_
  refine thenN ?_
  refine wp_ret ?_
  refine ret1v (.bool (decide (0 ≤ r))) rfl rfl ?_
  exact ⟨z1, by rw [← hr]⟩

theorem maniNames_c {M : Nat → Prop} (w : World) (hM : Old M w) (m : Mani) (ea : Option Addr) (en ec : Nat) (oa : Option Addr) (on oc : Nat) (he : At M w (Sl 2 (m.epochs.map encP) ea en ec)) (ho : At M w (Sl 3 (m.objects.map encO) oa on oc)) (eN : en ≤ 1048576) (oN : on ≤ 1048576) :
    Calls Tryd.prog 33 (List.toArray [.agg (List.toArray [.int .i64 m.id, .int .i64 m.base, .int .i64 m.end_, .int .i64 m.time, .slice ea en ec, .slice oa on oc])]) w (Ret No w fun v w9 => ∃ a9 c9, v = .slice a9 on c9 ∧ At M w9 (Sl 1 ((m.objects.map (·.name)).map encS) a9 on c9)) := by
  refine enter (n := 20) [(0, .agg (List.toArray [.int .i64 m.id, .int .i64 m.base, .int .i64 m.end_, .int .i64 m.time, .slice ea en ec, .slice oa on oc]))] Tryd.func33 rfl (by kernel_rfl) ?_
  refine seq ?_
  refine region [false, true] ?_
  refine l_box (M := M) Keep.any hM rfl rfl (fun k_1 w1 s1 fk_1 nk_1 => ?_)
  have e0_1 : Evo M w w1 := s1.no
  have z1 : Evo No w w1 := s1.no
  refine q_assign (v := .slice none 0 0) rfl rfl ?_
  refine done ?_
  refine thenN ?_
  refine seq ?_
  refine region [true] ?_
  refine q_assign (v := .slice none 0 0) rfl rfl ?_
  refine done ?_
  refine thenN ?_
  refine seq ?_
  refine seq ?_
  refine region [true, false, true, true] ?_
  refine q_fieldAddr rfl rfl fl31_5 ?_
  refine l_loadB trivial rfl rfl pl29 (fk_1.now (Evo.refl M _)) rfl ?_
  refine q_len rfl rfl el29 ?_
  refine q_move (v := .int .i64 0) rfl rfl ?_
  refine done ?_
  refine thenN ?_
  refine blk ?_
  refine loopN [10, 11, 12, 5, 13, 14, 15, 16, 17, 3, 18, 9] (fun k9 R9 wJ => ∃ (j : Nat), ∃ (b9 : Option Addr), ∃ (d9 : Nat), R9 = [(3, .slice b9 j d9), (9, .int .i64 (j : Int))] ∧ (j ≤ on) ∧ (Own 1 9 ((m.objects.map fun o => encS o.name).take j) b9 j d9 wJ) ∧ (∀ b, OwnB b9 b → w.heap.size ≤ b) ∧ (Evo No w wJ) ∧ k9 = on - j) ⟨_, _, ⟨0, none, 0, rfl, Nat.zero_le _, Own.nil _ _ _, own_lo_none, z1, rfl⟩, ⟨(by kernel_rfl), (by kernel_rfl), trivial⟩⟩ (fun k9 R9 u_2 w2 J_3 => ?_)
  obtain ⟨j, b9, d9, rfl, hj, O9, lo9, z9, rfl⟩ := J_3
  have e0_2 : Evo M w w2 := z9.no
  refine seq ?_
  refine region [true] ?_
  refine q_lss rfl rfl rfl ?_
  refine done ?_
  refine thenN ?_
  refine seq ?_
  refine cond_b rfl (fun h_4 => ?_) (fun h_4 => ?_)
  · skip
    have h_4p := of_decide_eq_true h_4
    refine wp_skip ?_
    refine thenN ?_
    refine seq ?_
    refine blk ?_
    refine seq ?_
    refine region [true, false, false, false] ?_
    obtain ⟨x_5, hx_5⟩ := Sl.get (xs := m.objects) ho.here (i := (j : Int)) (by omega) (by omega)
    have Ax_5 := Sl.areaAt ho (Sl.map_get hx_5)
    refine q_indexS' rfl rfl rfl el29 (ho.here.there (by omega)).1 (by omega) (by omega) ?_
    refine l_loadN trivial rfl rfl ag46 rfl (Ax_5.now e0_2) ?_
    refine l_alloc (M := M) Keep.any (hM.on z9) rfl ze46 (fun k_6 w3 s3 ck_6 nk_6 ok_6 => ?_)
    have lk_6_0 : w.heap.size ≤ k_6 := Nat.le_trans e0_2.size nk_6
    have lk_6_w : w.heap.size ≤ k_6 := Nat.le_trans z9.size nk_6
    have ow1_k_6 := fun (b0 : Nat) hb0 (e0 : b0 = k_6) => (absurd (O9.lt b0 hb0) (by omega) : False)
    have e0_3 : Evo M w w3 := e0_2.trans s3.no
    have z3 : Evo No w w3 := z9.trans s3.no
    have O_7 := O9.no s3
    have hlk_6 := ck_6.lt
    refine l_store Keep.any rfl rfl ck_6 rfl sz46 rfl (Nat.le_of_ble_eq_true rfl) rfl (cs' := [.string x_5.name, .int .i64 x_5.len, .int .u32 x_5.sum]) rfl (fun w4 s4 c_8 => ?_)
    have e0_4 : Evo M w w4 := e0_3.fresh s4 lk_6_0
    have z4 : Evo No w w4 := z3.fresh s4 lk_6_w
    have O_9 := O_7.on s4 (ow1_k_6)
    refine done ?_
    refine thenN ?_
    refine region [true, true, false, false, false, true] ?_
    refine q_move (v := .slice b9 j d9) rfl rfl ?_
    refine q_fieldAddr rfl rfl fl46_0 ?_
    refine l_loadB trivial rfl rfl pl9 c_8 rfl ?_
    refine l_buildSlice (M := M) (e := 9) (cs := [.string x_5.name]) Keep.any (hM.on z4) rfl rfl (fun _ => by kernel_rfl) (fun k_10 w5 s5 fk_10 nk_10 => ?_)
    have e0_5 : Evo M w w5 := e0_4.trans s5.no
    have z5 : Evo No w w5 := z4.trans s5.no
    have c_11 := c_8.no s5
    have O_12 := O_9.no s5
    refine l_append (k := 1) (news := [[.string x_5.name]]) Keep.any rfl rfl rfl ap76 O_12 (Src.of un76 (Sl.ofBlk (k := 1) (rows := [[.string x_5.name]]) (fk_10.now (Evo.refl M _)) rfl (by simp) rfl)) (Sl.ofBlk (k := 1) (rows := [[.string x_5.name]]) (fk_10.now (Evo.refl M _)) rfl (by simp) rfl).len (Sl.ofBlk (k := 1) (rows := [[.string x_5.name]]) (fk_10.now (Evo.refl M _)) rfl (by simp) rfl).shape (by omega) (by decide) (fun am_13 cm_13 w6 s6 Om_13 fm_13 nm_13 => ?_)
    have lom_13_0 := own_lo fm_13 lo9 e0_5.size
    have lom_13_w := own_lo fm_13 lo9 z5.size
    have e0_6 : Evo M w w6 := Evo.own e0_5 s6 lo9
    have z6 : Evo No w w6 := Evo.own z5 s6 lo9
    have c_14 := c_11.on s6 (fun hb => ow1_k_6 _ hb rfl)
    refine q_assign (v := .slice am_13 (j + 1) cm_13) rfl rfl ?_
    refine done ?_
    refine blkN ?_
    refine thenN ?_
    refine region [true, true] ?_
    refine q_add rfl rfl rfl (wi64 (by omega) (by omega)) ?_
    refine q_move (v := .int .i64 ((j : Int) + 1)) rfl rfl ?_
    refine done ?_
    refine thenN ?_
    have ht : (m.objects.map fun o => encS o.name).take (j + 1) = (m.objects.map fun o => encS o.name).take j ++ [encS x_5.name] := by rw [List.take_add_one, List.getElem?_map, show m.objects[j]? = some x_5 from hx_5]; rfl
    refine ⟨_, _, ?_, ⟨j + 1, am_13, cm_13, rfl, by omega, by rw [ht]; exact Om_13, lom_13_w, z6, rfl⟩, Env.near_at 26 (by kernel_rfl) (by kernel_rfl) ⟨(show _ = Value.slice am_13 (j + 1) cm_13 from rfl), (Eq.trans (b := Go.Value.int .i64 ((j : Int) + 1)) (by kernel_rfl) (nextI j)), trivial⟩⟩
    omega
  · skip
    have h_4p := of_decide_eq_false h_4
    refine wp_exit ?_
    refine thenX ?_
    refine thenX ?_
    refine blkX ?_
    refine thenN ?_
    refine seq ?_
    refine region [true, true] ?_
    refine q_move (v := .slice b9 j d9) rfl rfl ?_
    refine q_assign (v := .slice b9 j d9) rfl rfl ?_
    refine done ?_
    refine thenN ?_
    refine wp_ret ?_
    refine ret1v (.slice b9 j d9) rfl rfl ?_
    have hl := ho.here.len
    rw [List.length_map] at hl
    have hjn : j = on := by omega
    subst hjn
    rw [List.take_of_length_le (by simp; omega)] at *
    exact ⟨z9, _, _, rfl, by rw [List.map_map]; exact O9.at_ (own_notM hM lo9)⟩

theorem hitEq (s : ByteArray) (l : List Obj) : ((l.map (·.name)).any fun y => decide (s = y)) = l.any fun o => decide (o.name = s) := by
  induction l with
  | nil => rfl
  | cons a l ih => simp only [List.map_cons, List.any_cons, ih]; congr 1; exact decide_eq_decide.2 ⟨Eq.symm, Eq.symm⟩

theorem vRefers_c {M : Nat → Prop} (w : World) (hM : Old M w) (bv bm : Nat) (l : List (Int × Mani)) (V : Vw M bv bm l w) (s : ByteArray) :
    Calls Tryd.prog 15 (List.toArray [.pointer (some ⟨bv, 0, none⟩), .string s]) w (Ret No w fun v _ => v = .bool (refersOf l s)) := by
  refine enter (n := 31) [(0, .pointer (some ⟨bv, 0, none⟩)), (1, .string s)] Tryd.func15 rfl (by kernel_rfl) ?_
  obtain ⟨L, hL, hR⟩ := V.map
  have hmlt := hL.lt
  refine seq ?_
  refine region [true] ?_
  refine q_assign (v := .bool false) rfl rfl ?_
  refine done ?_
  refine thenN ?_
  refine seq ?_
  refine seq ?_
  refine region [true, true, true, false, false] ?_
  refine q_move (v := .pointer (some ⟨bv, 0, none⟩)) rfl rfl ?_
  refine q_nilCheck rfl rfl ?_
  refine q_fieldAddr rfl rfl fl55_0 ?_
  refine l_loadB trivial rfl rfl pl53 (V.blk.now (Evo.refl M _)) rfl ?_
  refine l_range Keep.any rfl rfl ma53 hL (fun k_1 w1 s1 ck_1 nk_1 => ?_)
  have hbk_1 := hL.lt
  have lk_1_0 : w.heap.size ≤ k_1 := Nat.le_trans (Evo.refl M _).size nk_1
  have lk_1_w : w.heap.size ≤ k_1 := nk_1
  have e0_1 : Evo M w w1 := s1.no
  have z1 : Evo No w w1 := s1.no
  have c_2 := hL.no s1
  refine done ?_
  refine thenN ?_
  refine blk ?_
  refine loopN [12, 13, 14, 15, 6, 16, 17, 18, 19, 20, 21, 22, 23, 24, 25, 26, 27, 28, 29, 30, 4] (fun k9 R9 wJ => ∃ (f9 : List (Int × Value)), ∃ (lq : List (Int × Mani)), ∃ (cu : Option (Int × Value)), R9 = [] ∧ (ItB k_1 bm L f9 cu wJ) ∧ (All2 (RV M w) f9 lq) ∧ (∀ q ∈ lq, q ∈ l) ∧ (Evo No w wJ) ∧ (lq.any (hitQ s) = l.any (hitQ s)) ∧ k9 = f9.length) ⟨_, _, ⟨L, l, none, rfl, ck_1, hR, fun _ h => h, z1, rfl, rfl⟩, trivial⟩ (fun k9 R9 u_3 w2 J_4 => ?_)
  obtain ⟨f9, lq, cu, rfl, ci9, hR9, hin9, z9, hq, rfl⟩ := J_4
  have e0_2 : Evo M w w2 := z9.no
  refine seq ?_
  refine region [false, true] ?_
  refine l_next trivial Keep.any rfl rfl ci9 (fun en_5 => ?_) (fun kn_5 vn_5 fn_5 w3 pn_5 s3 cn_5 => ?_)
  · skip
    refine q_extract rfl rfl rfl ?_
    refine done ?_
    refine thenN ?_
    refine seq ?_
    refine cond_f rfl ?_
    refine wp_exit ?_
    refine thenX ?_
    refine thenX ?_
    refine blkX ?_
    refine thenN ?_
    refine seq ?_
    refine region [true] ?_
    refine q_assign (v := .bool false) rfl rfl ?_
    refine done ?_
    refine thenN ?_
    refine wp_ret ?_
    refine ret1v (.bool false) rfl rfl ?_
    exact ⟨z9, by unfold refersOf; rw [← hq]; subst en_5; cases lq <;> first | rfl | exact hR9.elim⟩
  · skip
    have e0_3 : Evo M w w3 := e0_2.fresh s3 lk_1_0
    have z3 : Evo No w w3 := z9.fresh s3 lk_1_w
    obtain ⟨qn_5, gn_5, Pn_5, ⟨rfl, csn_5, rfl, mn_5⟩, Rn_5⟩ := next2 hR9 pn_5
    have in_5 := hin9 qn_5 (Pn_5.mem_iff.2 (by simp))
    have bn_5 := V.ids qn_5 in_5
    obtain ⟨eam_6, enm_6, ecm_6, oam_6, onm_6, ocm_6, rfl, eNm_6, oNm_6, hem_6, hom_6⟩ := Mrd.open mn_5
    refine q_extract rfl rfl rfl ?_
    refine done ?_
    refine thenN ?_
    refine seq ?_
    refine cond_t rfl ?_
    refine wp_skip ?_
    refine thenN ?_
    refine blk ?_
    refine seq ?_
    refine region [false, true, false, false] ?_
    refine l_entry trivial rfl rfl cn_5 ?_
    refine q_extract rfl rfl rfl ?_
    refine l_alloc (M := M) Keep.any (hM.on z3) rfl ze64 (fun k_7 w4 s4 ck_7 nk_7 ok_7 => ?_)
    have lk_7_0 : w.heap.size ≤ k_7 := Nat.le_trans e0_3.size nk_7
    have lk_7_w : w.heap.size ≤ k_7 := Nat.le_trans z3.size nk_7
    have hlk_1_k_7 := cn_5.lt
    have e0_4 : Evo M w w4 := e0_3.trans s4.no
    have z4 : Evo No w w4 := z3.trans s4.no
    have c_8 := cn_5.no s4
    have hlk_7 := ck_7.lt
    refine l_store Keep.any rfl rfl ck_7 rfl sz64 rfl (Nat.le_of_ble_eq_true rfl) rfl (cs' := [.int .i64 qn_5.1, .int .i64 qn_5.2.id, .int .i64 qn_5.2.base, .int .i64 qn_5.2.end_, .int .i64 qn_5.2.time, .slice eam_6 enm_6 ecm_6, .slice oam_6 onm_6 ocm_6]) rfl (fun w5 s5 c_9 => ?_)
    have e0_5 : Evo M w w5 := e0_4.fresh s5 lk_7_0
    have z5 : Evo No w w5 := z4.fresh s5 lk_7_w
    have c_10 := c_8.on s5 (by first | omega | (intro h0; subst h0; omega)) (by first | omega | (intro h0; subst h0; omega))
    refine done ?_
    refine thenN ?_
    refine seq ?_
    refine region [true, false, true, true, true, false, true, true, true, true, false, false, true, false, true] ?_
    refine q_fieldAddr rfl rfl fl64_0 ?_
    refine l_loadB trivial rfl rfl pl3 c_9 rfl ?_
    refine q_eql rfl rfl rfl ?_
    refine q_move (v := .bool (decide (qn_5.1 = 1))) rfl rfl ?_
    rcases bsplit (decide (qn_5.1 = 1)) with h_11 | h_11
    · skip
      have h_11p := of_decide_eq_true h_11
      refine q_no (gtf h_11) ?_
      refine l_no (gtf h_11) ?_
      refine q_no (gtf h_11) ?_
      refine q_pick_bt (v := .bool true) rfl rfl h_11 rfl ?_
      refine q_move (v := .bool true) rfl rfl ?_
      refine q_fieldAddr rfl rfl fl64_1 ?_
      refine l_loadBN ([.int .i64 qn_5.2.id, .int .i64 qn_5.2.base, .int .i64 qn_5.2.end_, .int .i64 qn_5.2.time, .slice eam_6 enm_6 ecm_6, .slice oam_6 onm_6 ocm_6]) trivial rfl rfl ag31 rfl c_9 rfl ?_
      refine l_call Keep.any rfl (maniNames_c (M := M) w5 (hM.on z5) qn_5.2 _ _ _ _ _ _ (hem_6.on e0_5) (hom_6.on e0_5) eNm_6 oNm_6) en33 rfl rfl (fun v_15 w6 s6 q_16 => ?_)
      have e0_6 : Evo M w w6 := e0_5.trans s6.no
      have z6 : Evo No w w6 := z5.trans s6.no
      have c_17 := c_10.no s6
      have c_18 := c_9.no s6
      obtain ⟨a_12, c_13, rfl, r_14⟩ := q_16
      refine q_move (v := .string s) rfl rfl ?_
      refine l_call Keep.any rfl (hasStrs_c (M := M) w6 _ _ _ _ (r_14.on (Evo.refl M _)) (by omega) s) en32 rfl rfl (fun v_19 w7 s7 q_20 => ?_)
      have e0_7 : Evo M w w7 := e0_6.trans s7.no
      have e6_7 : Evo M w6 w7 := s7.no
      have z7 : Evo No w w7 := z6.trans s7.no
      have c_21 := c_17.no s7
      have c_22 := c_18.no s7
      obtain rfl := q_20
      refine q_pick_t (v := .bool ((qn_5.2.objects.map (·.name)).any fun y => decide (s = y))) rfl rfl rfl ?_
      refine done ?_
      refine thenN ?_
      refine cond_b rfl (fun h_23 => ?_) (fun h_23 => ?_)
      · skip
        refine seq ?_
        refine region [true] ?_
        refine q_assign (v := .bool true) rfl rfl ?_
        refine done ?_
        refine thenN ?_
        refine wp_ret ?_
        refine blkR ?_
        refine thenR ?_
        refine blkR ?_
        refine thenR ?_
        refine ret1v (.bool true) rfl rfl ?_
        exact ⟨z7, by unfold refersOf; rw [← hq, any_perm Pn_5, List.any_cons, show hitQ s qn_5 = true from (by unfold hitQ; rw [← hitEq]; simp only [h_11, h_23, Bool.or_true, Bool.true_or, Bool.true_and, Bool.and_true, Bool.false_or, Bool.or_false, Bool.false_and, Bool.and_false])]; rfl⟩
      · skip
        refine wp_skip ?_
        refine blkN ?_
        refine thenN ?_
        have hlen := pn_5.length_eq; simp only [List.length_cons] at hlen
        refine ⟨_, _, ?_, ⟨fn_5, gn_5, _, rfl, c_21, Rn_5, fun q h => hin9 q (Pn_5.mem_iff.2 (by simp [h])), z7, by rw [← hq, any_perm Pn_5, List.any_cons, show hitQ s qn_5 = false from (by unfold hitQ; rw [← hitEq]; simp only [h_11, h_23, Bool.or_true, Bool.true_or, Bool.true_and, Bool.and_true, Bool.false_or, Bool.or_false, Bool.false_and, Bool.and_false]), Bool.false_or], rfl⟩, Env.near_at 41 (by kernel_rfl) (by kernel_rfl) trivial⟩
        omega
    · skip
      have h_11p := of_decide_eq_false h_11
      refine q_fieldAddr (gff h_11) rfl fl64_0 ?_
      refine l_loadB trivial (gff h_11) rfl pl3 c_9 rfl ?_
      refine q_eql (gff h_11) rfl rfl ?_
      refine q_pick_bf (v := .bool (decide (qn_5.1 = 2))) rfl rfl h_11 rfl ?_
      refine q_move (v := .bool (decide (qn_5.1 = 2))) rfl rfl ?_
      rcases bsplit (decide (qn_5.1 = 2)) with h_24 | h_24
      · skip
        have h_24p := of_decide_eq_true h_24
        refine q_fieldAddr (gtt h_24) rfl fl64_1 ?_
        refine l_loadBN ([.int .i64 qn_5.2.id, .int .i64 qn_5.2.base, .int .i64 qn_5.2.end_, .int .i64 qn_5.2.time, .slice eam_6 enm_6 ecm_6, .slice oam_6 onm_6 ocm_6]) trivial (gtt h_24) rfl ag31 rfl c_9 rfl ?_
        refine l_call Keep.any (gtt h_24) (maniNames_c (M := M) w5 (hM.on z5) qn_5.2 _ _ _ _ _ _ (hem_6.on e0_5) (hom_6.on e0_5) eNm_6 oNm_6) en33 rfl rfl (fun v_28 w6 s6 q_29 => ?_)
        have e0_6 : Evo M w w6 := e0_5.trans s6.no
        have z6 : Evo No w w6 := z5.trans s6.no
        have c_30 := c_10.no s6
        have c_31 := c_9.no s6
        obtain ⟨a_25, c_26, rfl, r_27⟩ := q_29
        refine q_move (v := .string s) (gtt h_24) rfl ?_
        refine l_call Keep.any (gtt h_24) (hasStrs_c (M := M) w6 _ _ _ _ (r_27.on (Evo.refl M _)) (by omega) s) en32 rfl rfl (fun v_32 w7 s7 q_33 => ?_)
        have e0_7 : Evo M w w7 := e0_6.trans s7.no
        have e6_7 : Evo M w6 w7 := s7.no
        have z7 : Evo No w w7 := z6.trans s7.no
        have c_34 := c_30.no s7
        have c_35 := c_31.no s7
        obtain rfl := q_33
        refine q_pick_bt (v := .bool ((qn_5.2.objects.map (·.name)).any fun y => decide (s = y))) rfl rfl h_24 rfl ?_
        refine done ?_
        refine thenN ?_
        refine cond_b rfl (fun h_36 => ?_) (fun h_36 => ?_)
        · skip
          refine seq ?_
          refine region [true] ?_
          refine q_assign (v := .bool true) rfl rfl ?_
          refine done ?_
          refine thenN ?_
          refine wp_ret ?_
          refine blkR ?_
          refine thenR ?_
          refine blkR ?_
          refine thenR ?_
          refine ret1v (.bool true) rfl rfl ?_
          exact ⟨z7, by unfold refersOf; rw [← hq, any_perm Pn_5, List.any_cons, show hitQ s qn_5 = true from (by unfold hitQ; rw [← hitEq]; simp only [h_11, h_24, h_36, Bool.or_true, Bool.true_or, Bool.true_and, Bool.and_true, Bool.false_or, Bool.or_false, Bool.false_and, Bool.and_false])]; rfl⟩
        · skip
          refine wp_skip ?_
          refine blkN ?_
          refine thenN ?_
          have hlen := pn_5.length_eq; simp only [List.length_cons] at hlen
          refine ⟨_, _, ?_, ⟨fn_5, gn_5, _, rfl, c_34, Rn_5, fun q h => hin9 q (Pn_5.mem_iff.2 (by simp [h])), z7, by rw [← hq, any_perm Pn_5, List.any_cons, show hitQ s qn_5 = false from (by unfold hitQ; rw [← hitEq]; simp only [h_11, h_24, h_36, Bool.or_true, Bool.true_or, Bool.true_and, Bool.and_true, Bool.false_or, Bool.or_false, Bool.false_and, Bool.and_false]), Bool.false_or], rfl⟩, Env.near_at 41 (by kernel_rfl) (by kernel_rfl) trivial⟩
          omega
      · skip
        have h_24p := of_decide_eq_false h_24
        refine q_no (gft h_24) ?_
        refine l_no (gft h_24) ?_
        refine l_no (gft h_24) ?_
        refine q_no (gft h_24) ?_
        refine l_no (gft h_24) ?_
        refine q_pick_bf (v := .bool false) rfl rfl h_24 rfl ?_
        refine done ?_
        refine thenN ?_
        refine cond_f rfl ?_
        refine wp_skip ?_
        refine blkN ?_
        refine thenN ?_
        have hlen := pn_5.length_eq; simp only [List.length_cons] at hlen
        refine ⟨_, _, ?_, ⟨fn_5, gn_5, _, rfl, c_10, Rn_5, fun q h => hin9 q (Pn_5.mem_iff.2 (by simp [h])), z5, by rw [← hq, any_perm Pn_5, List.any_cons, show hitQ s qn_5 = false from (by unfold hitQ; rw [← hitEq]; simp only [h_11, h_24, Bool.or_true, Bool.true_or, Bool.true_and, Bool.and_true, Bool.false_or, Bool.or_false, Bool.false_and, Bool.and_false]), Bool.false_or], rfl⟩, Env.near_at 41 (by kernel_rfl) (by kernel_rfl) trivial⟩
        omega

theorem vApply_c {M : Nat → Prop} (w : World) (hM : Old M w) (bl : Nat → Addr) (hG : At M w (Gl bl)) (bv bm : Nat) (l : List (Int × Mani)) (V : Vw M bv bm l w) (k : Int) (m : Mani) (ea : Option Addr) (en ec : Nat) (oa : Option Addr) (on oc : Nat) (he : At M w (Sl 2 (m.epochs.map encP) ea en ec)) (ho : At M w (Sl 3 (m.objects.map encO) oa on oc)) (eN : en ≤ 1048576) (oN : on ≤ 1048576) :
    Calls Tryd.prog 11 (List.toArray [.pointer (some ⟨bv, 0, none⟩), .agg (List.toArray [.int .i64 k, .int .i64 m.id, .int .i64 m.base, .int .i64 m.end_, .int .i64 m.time, .slice ea en ec, .slice oa on oc])]) w (Ret (· = bm) w fun v w9 => At M w9 (ErIs bl (applyErr l k m) v) ∧ Vw M bv bm (applyV l k m) w9) := by
  refine enter (n := 78) [(0, .pointer (some ⟨bv, 0, none⟩)), (1, .agg (List.toArray [.int .i64 k, .int .i64 m.id, .int .i64 m.base, .int .i64 m.end_, .int .i64 m.time, .slice ea en ec, .slice oa on oc]))] Tryd.func11 rfl (by kernel_rfl) ?_
  obtain ⟨L, hL, hR⟩ := V.map
  have hmlt := hL.lt
  refine seq ?_
  refine region [false, true] ?_
  refine l_box (M := M) Keep.any hM rfl rfl (fun k_1 w1 s1 fk_1 nk_1 => ?_)
  have e0_1 : Evo M w w1 := s1.no
  have en_1 : Evo No w w1 := s1.no
  have z1 : Evo (· = bm) w w1 := s1.no
  have c_2 := hL.no s1
  refine q_assign (v := .nilIface) rfl rfl ?_
  refine done ?_
  refine thenN ?_
  refine seq ?_
  refine seq ?_
  refine region [true, false, false, true] ?_
  refine q_fieldAddr rfl rfl fl37_1 ?_
  refine l_loadBN ([.int .i64 m.id, .int .i64 m.base, .int .i64 m.end_, .int .i64 m.time, .slice ea en ec, .slice oa on oc]) trivial rfl rfl ag31 rfl (fk_1.now (Evo.refl M _)) rfl ?_
  refine l_call Keep.any rfl (maniValid_c (M := M) w1 (hM.on z1) bl (hG.on e0_1) m _ _ _ _ _ _ (he.on e0_1) (ho.on e0_1) eN oN) en21 rfl rfl (fun v_6 w2 s2 q_7 => ?_)
  have e0_2 : Evo M w w2 := e0_1.trans s2.no
  have en_2 : Evo No w w2 := en_1.trans s2.no
  have e1_2 : Evo M w1 w2 := s2.no
  have z2 : Evo (· = bm) w w2 := z1.trans s2.no
  have c_8 := c_2.no s2
  have E_4 := q_7
  refine q_assign (v := v_6) rfl rfl ?_
  refine done ?_
  refine thenN ?_
  refine seq ?_
  refine region [true, true] ?_
  refine q_move (v := v_6) rfl rfl ?_
  rcases ErIs.cases E_4.here with ⟨h_9, rfl⟩ | ⟨h_9, t_10, u_11, rfl⟩
  · skip
    refine q_nilNeq rfl rfl if34 ?_
    refine done ?_
    refine thenN ?_
    refine cond_f rfl ?_
    refine wp_skip ?_
    refine thenN ?_
    refine seq ?_
    refine seq ?_
    refine region [true, false, true, true, true, false, true, true] ?_
    refine q_fieldAddr rfl rfl fl37_0 ?_
    refine l_loadB trivial rfl rfl pl3 (fk_1.now e1_2) rfl ?_
    refine q_lss rfl rfl rfl ?_
    refine q_move (v := .bool (decide (k < 1))) rfl rfl ?_
    rcases bsplit (decide (k < 1)) with h_12 | h_12
    · skip
      have h_12p := of_decide_eq_true h_12
      refine q_no (gtf h_12) ?_
      refine l_no (gtf h_12) ?_
      refine q_no (gtf h_12) ?_
      refine q_pick_bt (v := .bool true) rfl rfl h_12 rfl ?_
      refine done ?_
      refine thenN ?_
      refine cond_t rfl ?_
      refine seq ?_
      refine region [false, true] ?_
      refine l_load trivial rfl rfl pl34 ((hG.now e0_2).cell 0 (by decide)) ?_
      refine q_assign (v := sen bl 0) rfl rfl ?_
      refine done ?_
      refine thenN ?_
      refine wp_ret ?_
      refine thenR ?_
      refine ret1v (sen bl 0) rfl rfl ?_
      have hE : applyErr l k m = .e 0 := by unfold applyErr; rw [h_9]; dsimp only; rw [if_pos (by omega)]
      exact ⟨z2, by rw [hE]; exact fun _ _ => rfl, by unfold applyV; rw [if_neg (by rw [hE]; simp)]; exact V.no en_2⟩
    · skip
      have h_12p := of_decide_eq_false h_12
      refine q_fieldAddr (gff h_12) rfl fl37_0 ?_
      refine l_loadB trivial (gff h_12) rfl pl3 (fk_1.now e1_2) rfl ?_
      refine q_gtr (gff h_12) rfl rfl ?_
      refine q_pick_bf (v := .bool (decide (4 < k))) rfl rfl h_12 rfl ?_
      refine done ?_
      refine thenN ?_
      refine cond_b rfl (fun h_13 => ?_) (fun h_13 => ?_)
      · skip
        have h_13p := of_decide_eq_true h_13
        refine seq ?_
        refine region [false, true] ?_
        refine l_load trivial rfl rfl pl34 ((hG.now e0_2).cell 0 (by decide)) ?_
        refine q_assign (v := sen bl 0) rfl rfl ?_
        refine done ?_
        refine thenN ?_
        refine wp_ret ?_
        refine thenR ?_
        refine ret1v (sen bl 0) rfl rfl ?_
        have hE : applyErr l k m = .e 0 := by unfold applyErr; rw [h_9]; dsimp only; rw [if_pos (by omega)]
        exact ⟨z2, by rw [hE]; exact fun _ _ => rfl, by unfold applyV; rw [if_neg (by rw [hE]; simp)]; exact V.no en_2⟩
      · skip
        have h_13p := of_decide_eq_false h_13
        refine wp_skip ?_
        refine thenN ?_
        refine seq ?_
        refine regionD No (.q 0 (.q 1 (.q 2 (.q 3 (.q 4 (.q 5 (.q 6 (.q 7 (.q 8 (.q 9 (.q 10 (.l 11 (.l 12 (.q 13 (.nil))))))))))))))) mixed (by kernel_rfl) (by kernel_rfl) (by kernel_rfl) (fun w3 s3 => ?_)
        have e0_3 : Evo M w w3 := e0_2.trans s3.no
        have en_3 : Evo No w w3 := en_2.trans s3.no
        have e1_3 : Evo M w1 w3 := e1_2.trans s3.no
        have e2_3 : Evo M w2 w3 := s3.no
        have z3 : Evo (· = bm) w w3 := z2.trans s3.no
        have c_14 := c_8.no s3
        have rgr_15_3 : Evo No w2 w3 := s3.no
        refine q_move (v := .pointer (some ⟨bv, 0, none⟩)) rfl rfl ?_
        refine q_nilCheck rfl rfl ?_
        refine q_fieldAddr rfl rfl fl55_0 ?_
        refine q_loadB rfl rfl pl53 (V.blk.via e0_2 noX) rfl ?_
        refine q_fieldAddr rfl rfl fl37_1 ?_
        refine q_fieldAddr rfl rfl fl31_0 ?_
        refine q_loadB rfl rfl pl3 (fk_1.via e1_2 noX) rfl ?_
        rcases vasc m.id hR with ⟨ua_16, aa_16⟩ | ⟨qa_16, csa_16, ua_16, aa_16, ma_16⟩
        · skip
          refine q_lookup (v := .tuple #[.agg (List.toArray [.int .i64 0, .int .i64 0, .int .i64 0, .int .i64 0, .int .i64 0, .slice none 0 0, .slice none 0 0]), .bool false]) rfl rfl rfl ma53 (fun _ e => c_8.no e) zv64 (by rw [aa_16]; rfl) ?_
          refine q_move (v := .tuple #[.agg (List.toArray [.int .i64 0, .int .i64 0, .int .i64 0, .int .i64 0, .int .i64 0, .slice none 0 0, .slice none 0 0]), .bool false]) rfl rfl ?_
          refine q_extract rfl rfl rfl ?_
          refine q_extract rfl rfl rfl ?_
          refine l_alloc (M := M) (Keep.evo rgr_15_3 noX) (hM.on z3) rfl ze64 (fun k_17 w4 s4 ck_17 nk_17 ok_17 => ?_)
          have lk_17_0 : w.heap.size ≤ k_17 := Nat.le_trans e0_3.size nk_17
          have lk_17_n : w.heap.size ≤ k_17 := Nat.le_trans en_3.size nk_17
          have lk_17_1 : w1.heap.size ≤ k_17 := Nat.le_trans e1_3.size nk_17
          have lk_17_2 : w2.heap.size ≤ k_17 := Nat.le_trans e2_3.size nk_17
          have lk_17_w : w.heap.size ≤ k_17 := Nat.le_trans z3.size nk_17
          have hlbm_k_17 := c_14.lt
          have e0_4 : Evo M w w4 := e0_3.trans s4.no
          have en_4 : Evo No w w4 := en_3.trans s4.no
          have e1_4 : Evo M w1 w4 := e1_3.trans s4.no
          have e2_4 : Evo M w2 w4 := e2_3.trans s4.no
          have z4 : Evo (· = bm) w w4 := z3.trans s4.no
          have c_18 := c_14.no s4
          have rgr_15_4 : Evo No w2 w4 := rgr_15_3.trans s4.no
          have hlk_17 := ck_17.lt
          refine l_store (Keep.evo rgr_15_4 (freshX (Nat.le_trans rgr_15_3.size nk_17))) rfl rfl ck_17 rfl sz64 rfl (Nat.le_of_ble_eq_true rfl) rfl (cs' := [.int .i64 0, .int .i64 0, .int .i64 0, .int .i64 0, .int .i64 0, .slice none 0 0, .slice none 0 0]) rfl (fun w5 s5 c_19 => ?_)
          have e0_5 : Evo M w w5 := e0_4.fresh s5 lk_17_0
          have en_5 : Evo No w w5 := en_4.fresh s5 lk_17_n
          have e1_5 : Evo M w1 w5 := e1_4.fresh s5 lk_17_1
          have e2_5 : Evo M w2 w5 := e2_4.fresh s5 lk_17_2
          have z5 : Evo (· = bm) w w5 := z4.fresh s5 lk_17_w
          have c_20 := c_18.on s5 (by first | omega | (intro h0; subst h0; omega))
          have rgr_15_5 : Evo No w2 w5 := rgr_15_4.fstep s5 (freshX (Nat.le_trans rgr_15_3.size nk_17))
          refine q_assign (v := .bool false) rfl rfl ?_
          refine done ?_
          refine thenN ?_
          refine seq ?_
          refine blk ?_
          refine seq ?_
          refine region [true, false, true, false, false, true, true] ?_
          refine q_fieldAddr rfl rfl fl64_0 ?_
          refine l_loadB trivial rfl rfl pl3 c_19 rfl ?_
          refine q_fieldAddr rfl rfl fl37_0 ?_
          refine l_loadB trivial rfl rfl pl3 (fk_1.now e1_5) rfl ?_
          refine l_call Keep.any rfl (entryNext_c w5 0 k) en22 rfl rfl (fun v_21 w6 s6 q_22 => ?_)
          have e0_6 : Evo M w w6 := e0_5.trans s6.no
          have en_6 : Evo No w w6 := en_5.trans s6.no
          have e1_6 : Evo M w1 w6 := e1_5.trans s6.no
          have e2_6 : Evo M w2 w6 := e2_5.trans s6.no
          have z6 : Evo (· = bm) w w6 := z5.trans s6.no
          have c_23 := c_20.no s6
          have c_24 := c_19.no s6
          obtain rfl := q_22
          refine q_not rfl rfl ?_
          refine q_assign (v := .bool (!(nextOk 0 k))) rfl rfl ?_
          refine done ?_
          refine thenN ?_
          refine cond_b rfl (fun h_25 => ?_) (fun h_25 => ?_)
          · skip
            have h_26 := unT h_25
            refine seq ?_
            refine region [false, true] ?_
            refine l_load trivial rfl rfl pl34 ((hG.now e0_6).cell 1 (by decide)) ?_
            refine q_assign (v := sen bl 1) rfl rfl ?_
            refine done ?_
            refine thenN ?_
            refine wp_ret ?_
            refine blkR ?_
            refine thenR ?_
            refine ret1v (sen bl 1) rfl rfl ?_
            have hst : stateOf l m.id = 0 := by unfold stateOf; rw [ua_16]; rfl
            have hE : applyErr l k m = .e 1 := by unfold applyErr; rw [h_9]; dsimp only; rw [if_neg (by omega), hst, if_pos h_26]
            exact ⟨z6, by rw [hE]; exact fun _ _ => rfl, by unfold applyV; rw [if_neg (by rw [hE]; simp)]; exact V.no en_6⟩
          · skip
            have h_27 := unF h_25
            refine seq ?_
            refine region [true, true, true, true, true, true, false, false, true, true, true] ?_
            refine q_move (v := .bool false) rfl rfl ?_
            refine q_not rfl rfl ?_
            refine q_move (v := .bool true) rfl rfl ?_
            refine q_move (v := .pointer (some ⟨bv, 0, none⟩)) rfl rfl ?_
            refine q_nilCheck rfl rfl ?_
            refine q_fieldAddr rfl rfl fl55_0 ?_
            refine l_loadB trivial rfl rfl pl53 (V.blk.now e0_6) rfl ?_
            refine l_lenM trivial rfl rfl ma53 c_23 ?_
            refine q_geq rfl rfl rfl ?_
            refine q_pick_t (v := .bool (decide (4096 ≤ (L.length : Int)))) rfl rfl rfl ?_
            refine q_assign (v := .bool (decide (4096 ≤ (L.length : Int)))) rfl rfl ?_
            refine done ?_
            refine thenN ?_
            refine cond_b rfl (fun h_28 => ?_) (fun h_28 => ?_)
            · skip
              have h_28p := of_decide_eq_true h_28
              refine seq ?_
              refine region [false, true] ?_
              refine l_load trivial rfl rfl pl34 ((hG.now e0_6).cell 2 (by decide)) ?_
              refine q_assign (v := sen bl 2) rfl rfl ?_
              refine done ?_
              refine thenN ?_
              refine wp_ret ?_
              refine blkR ?_
              refine thenR ?_
              refine ret1v (sen bl 2) rfl rfl ?_
              have hst : stateOf l m.id = 0 := by unfold stateOf; rw [ua_16]; rfl
              have hE : applyErr l k m = .e 2 := by unfold applyErr; rw [h_9]; dsimp only; rw [if_neg (by omega), hst, if_neg (by rw [h_27]; simp), ua_16]; dsimp only; rw [if_pos (by have := hR.len; omega)]
              exact ⟨z6, by rw [hE]; exact fun _ _ => rfl, by unfold applyV; rw [if_neg (by rw [hE]; simp)]; exact V.no en_6⟩
            · skip
              have h_28p := of_decide_eq_false h_28
              refine seq ?_
              refine region [true, true, true, false, true, false, false, true, true, true] ?_
              refine q_move (v := .bool false) rfl rfl ?_
              refine q_move (v := .bool false) rfl rfl ?_
              refine q_no rfl ?_
              refine l_no rfl ?_
              refine q_no rfl ?_
              refine l_no rfl ?_
              refine l_no rfl ?_
              refine q_no rfl ?_
              refine q_pick_f (v := .bool false) rfl rfl rfl ?_
              refine q_assign (v := .bool false) rfl rfl ?_
              refine done ?_
              refine thenN ?_
              refine cond_f rfl ?_
              refine wp_skip ?_
              refine blkN ?_
              refine thenN ?_
              refine seq ?_
              refine regionD (· = bm) (.q 0 (.q 1 (.q 2 (.q 3 (.q 4 (.q 5 (.q 6 (.q 7 (.q 8 (.q 9 (.q 10 (.l 11 (.q 12 (.l 13 (.nil))))))))))))))) mixed (by kernel_rfl) (by kernel_rfl) (by kernel_rfl) (fun w7 s7 => ?_)
              have e0_7 : Evo M w w7 := e0_6.trans s7.no
              have en_7 : Evo No w w7 := en_6.trans s7.no
              have e1_7 : Evo M w1 w7 := e1_6.trans s7.no
              have e2_7 : Evo M w2 w7 := e2_6.trans s7.no
              have z7 : Evo (· = bm) w w7 := z6.trans s7.no
              have c_29 := c_23.no s7
              have c_30 := c_24.no s7
              have rgr_31_7 : Evo (· = bm) w6 w7 := s7.no
              refine q_move (v := .pointer (some ⟨bv, 0, none⟩)) rfl rfl ?_
              refine q_nilCheck rfl rfl ?_
              refine q_fieldAddr rfl rfl fl55_0 ?_
              refine q_loadB rfl rfl pl53 (V.blk.via e0_6 (fun _ _ e => e ▸ V.inM)) rfl ?_
              refine q_fieldAddr rfl rfl fl37_1 ?_
              refine q_fieldAddr rfl rfl fl31_0 ?_
              refine q_loadB rfl rfl pl3 (fk_1.via e1_6 (fun _ _ e => e ▸ V.inM)) rfl ?_
              refine q_fieldAddr rfl rfl fl37_0 ?_
              refine q_loadB rfl rfl pl3 (fk_1.via e1_6 (fun _ _ e => e ▸ V.inM)) rfl ?_
              refine q_fieldAddr rfl rfl fl37_1 ?_
              refine q_loadBN ([.int .i64 m.id, .int .i64 m.base, .int .i64 m.end_, .int .i64 m.time, .slice ea en ec, .slice oa on oc]) rfl rfl ag31 rfl (fk_1.via e1_6 (fun _ _ e => e ▸ V.inM)) rfl ?_
              refine l_call (Keep.evo rgr_31_7 noX) rfl (maniClone_c (M := M) w7 (hM.on z7) m _ _ _ _ _ _ (he.on e0_7) (ho.on e0_7) eN oN) en24 rfl rfl (fun v_35 w8 s8 q_36 => ?_)
              have e0_8 : Evo M w w8 := e0_7.trans s8.no
              have en_8 : Evo No w w8 := en_7.trans s8.no
              have e1_8 : Evo M w1 w8 := e1_7.trans s8.no
              have e2_8 : Evo M w2 w8 := e2_7.trans s8.no
              have z8 : Evo (· = bm) w w8 := z7.trans s8.no
              have c_37 := c_29.no s8
              have c_38 := c_30.no s8
              have rgr_31_8 : Evo (· = bm) w6 w8 := rgr_31_7.trans s8.no
              obtain ⟨cs_32, rfl, hC_33⟩ := q_36
              obtain ⟨eam_34, enm_34, ecm_34, oam_34, onm_34, ocm_34, rfl, eNm_34, oNm_34, hem_34, hom_34⟩ := Mrd.open hC_33
              refine q_build (.agg (List.toArray [.int .i64 k, .int .i64 m.id, .int .i64 m.base, .int .i64 m.end_, .int .i64 m.time, .slice eam_34 enm_34 ecm_34, .slice oam_34 onm_34 ocm_34])) rfl rfl (fun _ => by kernel_rfl) ?_
              refine l_mapUpdate (v := .agg (List.toArray [.int .i64 k, .int .i64 m.id, .int .i64 m.base, .int .i64 m.end_, .int .i64 m.time, .slice eam_34 enm_34 ecm_34, .slice oam_34 onm_34 ocm_34])) (Keep.evo rgr_31_8 (inX rfl)) rfl rfl rfl rfl ma53 c_37 (fun w9 s9 c_39 => ?_)
              have e0_9 : Evo M w w9 := e0_8.fstep s9 (inX V.inM)
              have e1_9 : Evo M w1 w9 := e1_8.fstep s9 (inX V.inM)
              have e2_9 : Evo M w2 w9 := e2_8.fstep s9 (inX V.inM)
              have e8_9 : Evo M w8 w9 := (Evo.refl M _).fstep s9 (inX V.inM)
              have z9 : Evo (· = bm) w w9 := z8.fstep s9 (inX rfl)
              have c_40 := c_38.on s9 (by first | omega | (intro h0; subst h0; omega))
              have rgr_31_9 : Evo (· = bm) w6 w9 := rgr_31_8.fstep s9 (inX rfl)
              refine done ?_
              refine thenN ?_
              refine seq ?_
              refine region [true] ?_
              refine q_assign (v := .nilIface) rfl rfl ?_
              refine done ?_
              refine thenN ?_
              refine wp_ret ?_
              refine ret1v (.nilIface) rfl rfl ?_
              have hst : stateOf l m.id = 0 := by unfold stateOf; rw [ua_16]; rfl
              have hE : applyErr l k m = .ok := by unfold applyErr; rw [h_9]; dsimp only; rw [if_neg (by omega), hst, if_neg (by rw [h_27]; simp), ua_16]; dsimp only; rw [if_neg (by have := hR.len; omega)]
              have hok : ∀ q ∈ vupd l (k, m), 0 ≤ q.2.id ∧ q.2.id ≤ 2147483647 := fun q hq => (vupd_mem hq).elim (fun e => by subst e; exact maniErr_id h_9) (V.ids q)
              exact ⟨z9, by rw [hE]; exact fun _ _ => rfl, by unfold applyV; rw [if_pos hE]; exact ⟨V.inM, V.blk.on e0_9, hok, _, c_39, vupd_all (x := (k, m)) ⟨rfl, _, rfl, hC_33.on e8_9⟩ (hR.imp fun a b h => h.on e0_9)⟩⟩
        · skip
          obtain ⟨eam_41, enm_41, ecm_41, oam_41, onm_41, ocm_41, rfl, eNm_41, oNm_41, hem_41, hom_41⟩ := Mrd.open ma_16
          refine q_lookup (v := .tuple #[.agg (List.toArray [.int .i64 qa_16.1, .int .i64 qa_16.2.id, .int .i64 qa_16.2.base, .int .i64 qa_16.2.end_, .int .i64 qa_16.2.time, .slice eam_41 enm_41 ecm_41, .slice oam_41 onm_41 ocm_41]), .bool true]) rfl rfl rfl ma53 (fun _ e => c_8.no e) zv64 (by rw [aa_16]; rfl) ?_
          refine q_move (v := .tuple #[.agg (List.toArray [.int .i64 qa_16.1, .int .i64 qa_16.2.id, .int .i64 qa_16.2.base, .int .i64 qa_16.2.end_, .int .i64 qa_16.2.time, .slice eam_41 enm_41 ecm_41, .slice oam_41 onm_41 ocm_41]), .bool true]) rfl rfl ?_
          refine q_extract rfl rfl rfl ?_
          refine q_extract rfl rfl rfl ?_
          refine l_alloc (M := M) (Keep.evo rgr_15_3 noX) (hM.on z3) rfl ze64 (fun k_42 w4 s4 ck_42 nk_42 ok_42 => ?_)
          have lk_42_0 : w.heap.size ≤ k_42 := Nat.le_trans e0_3.size nk_42
          have lk_42_n : w.heap.size ≤ k_42 := Nat.le_trans en_3.size nk_42
          have lk_42_1 : w1.heap.size ≤ k_42 := Nat.le_trans e1_3.size nk_42
          have lk_42_2 : w2.heap.size ≤ k_42 := Nat.le_trans e2_3.size nk_42
          have lk_42_w : w.heap.size ≤ k_42 := Nat.le_trans z3.size nk_42
          have hlbm_k_42 := c_14.lt
          have e0_4 : Evo M w w4 := e0_3.trans s4.no
          have en_4 : Evo No w w4 := en_3.trans s4.no
          have e1_4 : Evo M w1 w4 := e1_3.trans s4.no
          have e2_4 : Evo M w2 w4 := e2_3.trans s4.no
          have z4 : Evo (· = bm) w w4 := z3.trans s4.no
          have c_43 := c_14.no s4
          have rgr_15_4 : Evo No w2 w4 := rgr_15_3.trans s4.no
          have hlk_42 := ck_42.lt
          refine l_store (Keep.evo rgr_15_4 (freshX (Nat.le_trans rgr_15_3.size nk_42))) rfl rfl ck_42 rfl sz64 rfl (Nat.le_of_ble_eq_true rfl) rfl (cs' := [.int .i64 qa_16.1, .int .i64 qa_16.2.id, .int .i64 qa_16.2.base, .int .i64 qa_16.2.end_, .int .i64 qa_16.2.time, .slice eam_41 enm_41 ecm_41, .slice oam_41 onm_41 ocm_41]) rfl (fun w5 s5 c_44 => ?_)
          have e0_5 : Evo M w w5 := e0_4.fresh s5 lk_42_0
          have en_5 : Evo No w w5 := en_4.fresh s5 lk_42_n
          have e1_5 : Evo M w1 w5 := e1_4.fresh s5 lk_42_1
          have e2_5 : Evo M w2 w5 := e2_4.fresh s5 lk_42_2
          have z5 : Evo (· = bm) w w5 := z4.fresh s5 lk_42_w
          have c_45 := c_43.on s5 (by first | omega | (intro h0; subst h0; omega))
          have rgr_15_5 : Evo No w2 w5 := rgr_15_4.fstep s5 (freshX (Nat.le_trans rgr_15_3.size nk_42))
          refine q_assign (v := .bool true) rfl rfl ?_
          refine done ?_
          refine thenN ?_
          refine seq ?_
          refine blk ?_
          refine seq ?_
          refine region [true, false, true, false, false, true, true] ?_
          refine q_fieldAddr rfl rfl fl64_0 ?_
          refine l_loadB trivial rfl rfl pl3 c_44 rfl ?_
          refine q_fieldAddr rfl rfl fl37_0 ?_
          refine l_loadB trivial rfl rfl pl3 (fk_1.now e1_5) rfl ?_
          refine l_call Keep.any rfl (entryNext_c w5 qa_16.1 k) en22 rfl rfl (fun v_46 w6 s6 q_47 => ?_)
          have e0_6 : Evo M w w6 := e0_5.trans s6.no
          have en_6 : Evo No w w6 := en_5.trans s6.no
          have e1_6 : Evo M w1 w6 := e1_5.trans s6.no
          have e2_6 : Evo M w2 w6 := e2_5.trans s6.no
          have z6 : Evo (· = bm) w w6 := z5.trans s6.no
          have c_48 := c_45.no s6
          have c_49 := c_44.no s6
          obtain rfl := q_47
          refine q_not rfl rfl ?_
          refine q_assign (v := .bool (!(nextOk qa_16.1 k))) rfl rfl ?_
          refine done ?_
          refine thenN ?_
          refine cond_b rfl (fun h_50 => ?_) (fun h_50 => ?_)
          · skip
            have h_51 := unT h_50
            refine seq ?_
            refine region [false, true] ?_
            refine l_load trivial rfl rfl pl34 ((hG.now e0_6).cell 1 (by decide)) ?_
            refine q_assign (v := sen bl 1) rfl rfl ?_
            refine done ?_
            refine thenN ?_
            refine wp_ret ?_
            refine blkR ?_
            refine thenR ?_
            refine ret1v (sen bl 1) rfl rfl ?_
            have hst : stateOf l m.id = qa_16.1 := by unfold stateOf; rw [ua_16]; rfl
            have hE : applyErr l k m = .e 1 := by unfold applyErr; rw [h_9]; dsimp only; rw [if_neg (by omega), hst, if_pos h_51]
            exact ⟨z6, by rw [hE]; exact fun _ _ => rfl, by unfold applyV; rw [if_neg (by rw [hE]; simp)]; exact V.no en_6⟩
          · skip
            have h_52 := unF h_50
            refine seq ?_
            refine region [true, true, true, true, true, true, false, false, true, true, true] ?_
            refine q_move (v := .bool true) rfl rfl ?_
            refine q_not rfl rfl ?_
            refine q_move (v := .bool false) rfl rfl ?_
            refine q_no rfl ?_
            refine q_no rfl ?_
            refine q_no rfl ?_
            refine l_no rfl ?_
            refine l_no rfl ?_
            refine q_no rfl ?_
            refine q_pick_f (v := .bool false) rfl rfl rfl ?_
            refine q_assign (v := .bool false) rfl rfl ?_
            refine done ?_
            refine thenN ?_
            refine cond_f rfl ?_
            refine seq ?_
            refine region [true, true, true, false, true, false, false, true, true, true] ?_
            refine q_move (v := .bool true) rfl rfl ?_
            refine q_move (v := .bool true) rfl rfl ?_
            refine q_fieldAddr rfl rfl fl64_1 ?_
            refine l_loadBN ([.int .i64 qa_16.2.id, .int .i64 qa_16.2.base, .int .i64 qa_16.2.end_, .int .i64 qa_16.2.time, .slice eam_41 enm_41 ecm_41, .slice oam_41 onm_41 ocm_41]) trivial rfl rfl ag31 rfl c_49 rfl ?_
            refine q_fieldAddr rfl rfl fl37_1 ?_
            refine l_loadBN ([.int .i64 m.id, .int .i64 m.base, .int .i64 m.end_, .int .i64 m.time, .slice ea en ec, .slice oa on oc]) trivial rfl rfl ag31 rfl (fk_1.now e1_6) rfl ?_
            refine l_call Keep.any rfl (maniSame_c (M := M) w6 (hM.on z6) qa_16.2 _ _ _ _ _ _ (hem_41.on e0_6) (hom_41.on e0_6) eNm_41 oNm_41 m _ _ _ _ _ _ (he.on e0_6) (ho.on e0_6) eN oN) en23 rfl rfl (fun v_53 w7 s7 q_54 => ?_)
            have e0_7 : Evo M w w7 := e0_6.trans s7.no
            have en_7 : Evo No w w7 := en_6.trans s7.no
            have e1_7 : Evo M w1 w7 := e1_6.trans s7.no
            have e2_7 : Evo M w2 w7 := e2_6.trans s7.no
            have z7 : Evo (· = bm) w w7 := z6.trans s7.no
            have c_55 := c_48.no s7
            have c_56 := c_49.no s7
            obtain rfl := q_54
            refine q_not rfl rfl ?_
            refine q_pick_t (v := .bool (!(decide (qa_16.2 = m)))) rfl rfl rfl ?_
            refine q_assign (v := .bool (!(decide (qa_16.2 = m)))) rfl rfl ?_
            refine done ?_
            refine thenN ?_
            refine cond_b rfl (fun h_57 => ?_) (fun h_57 => ?_)
            · skip
              have h_58 := unT h_57
              have h_58p := of_decide_eq_false h_58
              refine seq ?_
              refine region [false, true] ?_
              refine l_load trivial rfl rfl pl34 ((hG.now e0_7).cell 3 (by decide)) ?_
              refine q_assign (v := sen bl 3) rfl rfl ?_
              refine done ?_
              refine thenN ?_
              refine wp_ret ?_
              refine blkR ?_
              refine thenR ?_
              refine ret1v (sen bl 3) rfl rfl ?_
              have hst : stateOf l m.id = qa_16.1 := by unfold stateOf; rw [ua_16]; rfl
              have hE : applyErr l k m = .e 3 := by unfold applyErr; rw [h_9]; dsimp only; rw [if_neg (by omega), hst, if_neg (by rw [h_52]; simp), ua_16]; dsimp only; rw [if_neg (of_decide_eq_false h_58)]
              exact ⟨z7, by rw [hE]; exact fun _ _ => rfl, by unfold applyV; rw [if_neg (by rw [hE]; simp)]; exact V.no en_7⟩
            · skip
              have h_59 := unF h_57
              have h_59p := of_decide_eq_true h_59
              refine wp_skip ?_
              refine blkN ?_
              refine thenN ?_
              refine seq ?_
              refine regionD (· = bm) (.q 0 (.q 1 (.q 2 (.q 3 (.q 4 (.q 5 (.q 6 (.q 7 (.q 8 (.q 9 (.q 10 (.l 11 (.q 12 (.l 13 (.nil))))))))))))))) mixed (by kernel_rfl) (by kernel_rfl) (by kernel_rfl) (fun w8 s8 => ?_)
              have e0_8 : Evo M w w8 := e0_7.trans s8.no
              have en_8 : Evo No w w8 := en_7.trans s8.no
              have e1_8 : Evo M w1 w8 := e1_7.trans s8.no
              have e2_8 : Evo M w2 w8 := e2_7.trans s8.no
              have z8 : Evo (· = bm) w w8 := z7.trans s8.no
              have c_60 := c_55.no s8
              have c_61 := c_56.no s8
              have rgr_62_8 : Evo (· = bm) w7 w8 := s8.no
              refine q_move (v := .pointer (some ⟨bv, 0, none⟩)) rfl rfl ?_
              refine q_nilCheck rfl rfl ?_
              refine q_fieldAddr rfl rfl fl55_0 ?_
              refine q_loadB rfl rfl pl53 (V.blk.via e0_7 (fun _ _ e => e ▸ V.inM)) rfl ?_
              refine q_fieldAddr rfl rfl fl37_1 ?_
              refine q_fieldAddr rfl rfl fl31_0 ?_
              refine q_loadB rfl rfl pl3 (fk_1.via e1_7 (fun _ _ e => e ▸ V.inM)) rfl ?_
              refine q_fieldAddr rfl rfl fl37_0 ?_
              refine q_loadB rfl rfl pl3 (fk_1.via e1_7 (fun _ _ e => e ▸ V.inM)) rfl ?_
              refine q_fieldAddr rfl rfl fl37_1 ?_
              refine q_loadBN ([.int .i64 m.id, .int .i64 m.base, .int .i64 m.end_, .int .i64 m.time, .slice ea en ec, .slice oa on oc]) rfl rfl ag31 rfl (fk_1.via e1_7 (fun _ _ e => e ▸ V.inM)) rfl ?_
              refine l_call (Keep.evo rgr_62_8 noX) rfl (maniClone_c (M := M) w8 (hM.on z8) m _ _ _ _ _ _ (he.on e0_8) (ho.on e0_8) eN oN) en24 rfl rfl (fun v_66 w9 s9 q_67 => ?_)
              have e0_9 : Evo M w w9 := e0_8.trans s9.no
              have en_9 : Evo No w w9 := en_8.trans s9.no
              have e1_9 : Evo M w1 w9 := e1_8.trans s9.no
              have e2_9 : Evo M w2 w9 := e2_8.trans s9.no
              have z9 : Evo (· = bm) w w9 := z8.trans s9.no
              have c_68 := c_60.no s9
              have c_69 := c_61.no s9
              have rgr_62_9 : Evo (· = bm) w7 w9 := rgr_62_8.trans s9.no
              obtain ⟨cs_63, rfl, hC_64⟩ := q_67
              obtain ⟨eam_65, enm_65, ecm_65, oam_65, onm_65, ocm_65, rfl, eNm_65, oNm_65, hem_65, hom_65⟩ := Mrd.open hC_64
              refine q_build (.agg (List.toArray [.int .i64 k, .int .i64 m.id, .int .i64 m.base, .int .i64 m.end_, .int .i64 m.time, .slice eam_65 enm_65 ecm_65, .slice oam_65 onm_65 ocm_65])) rfl rfl (fun _ => by kernel_rfl) ?_
              refine l_mapUpdate (v := .agg (List.toArray [.int .i64 k, .int .i64 m.id, .int .i64 m.base, .int .i64 m.end_, .int .i64 m.time, .slice eam_65 enm_65 ecm_65, .slice oam_65 onm_65 ocm_65])) (Keep.evo rgr_62_9 (inX rfl)) rfl rfl rfl rfl ma53 c_68 (fun w10 s10 c_70 => ?_)
              have e0_10 : Evo M w w10 := e0_9.fstep s10 (inX V.inM)
              have e1_10 : Evo M w1 w10 := e1_9.fstep s10 (inX V.inM)
              have e2_10 : Evo M w2 w10 := e2_9.fstep s10 (inX V.inM)
              have e9_10 : Evo M w9 w10 := (Evo.refl M _).fstep s10 (inX V.inM)
              have z10 : Evo (· = bm) w w10 := z9.fstep s10 (inX rfl)
              have c_71 := c_69.on s10 (by first | omega | (intro h0; subst h0; omega))
              have rgr_62_10 : Evo (· = bm) w7 w10 := rgr_62_9.fstep s10 (inX rfl)
              refine done ?_
              refine thenN ?_
              refine seq ?_
              refine region [true] ?_
              refine q_assign (v := .nilIface) rfl rfl ?_
              refine done ?_
              refine thenN ?_
              refine wp_ret ?_
              refine ret1v (.nilIface) rfl rfl ?_
              have hst : stateOf l m.id = qa_16.1 := by unfold stateOf; rw [ua_16]; rfl
              have hE : applyErr l k m = .ok := by unfold applyErr; rw [h_9]; dsimp only; rw [if_neg (by omega), hst, if_neg (by rw [h_52]; simp), ua_16]; dsimp only; rw [if_pos (of_decide_eq_true h_59)]
              have hok : ∀ q ∈ vupd l (k, m), 0 ≤ q.2.id ∧ q.2.id ≤ 2147483647 := fun q hq => (vupd_mem hq).elim (fun e => by subst e; exact maniErr_id h_9) (V.ids q)
              exact ⟨z10, by rw [hE]; exact fun _ _ => rfl, by unfold applyV; rw [if_pos hE]; exact ⟨V.inM, V.blk.on e0_10, hok, _, c_70, vupd_all (x := (k, m)) ⟨rfl, _, rfl, hC_64.on e9_10⟩ (hR.imp fun a b h => h.on e0_10)⟩⟩
  · skip
    refine q_ifNeq rfl rfl if34 ?_
    refine done ?_
    refine thenN ?_
    refine cond_t rfl ?_
    refine seq ?_
    refine region [true, true] ?_
    refine q_move (v := .iface t_10 (u_11)) rfl rfl ?_
    refine q_assign (v := .iface t_10 (u_11)) rfl rfl ?_
    refine done ?_
    refine thenN ?_
    refine wp_ret ?_
    refine thenR ?_
    refine ret1v (.iface t_10 (u_11)) rfl rfl ?_
    have hne : maniErr m ≠ .ok := h_9
    have hE : applyErr l k m = maniErr m := by unfold applyErr; cases hq : maniErr m with | ok => exact absurd hq hne | e g => rfl | at_ p g => rfl
    exact ⟨z2, by rw [hE]; exact E_4.on (Evo.refl M _), by unfold applyV; rw [if_neg (by rw [hE]; exact hne)]; exact V.no en_2⟩
end Go.Proofs.YtnkafkikjcgogaaDoor
