import Derived.Test.YtnkafkikjcgogaaDoorSxg
import Derived.Test.YtnkafkikjcgogaaDoorFB
import Derived.Test.YtnkafkikjcgogaaDoorProg
import Derived.Test.YtnkafkikjcgogaaDoorNmod
import Derived.Test.YtnkafkikjcgogaaDoorVw9
import Derived.Test.YtnkafkikjcgogaaDoorVwA
set_option linter.unusedVariables false
set_option linter.unusedSimpArgs false
set_option maxRecDepth 4000
set_option maxHeartbeats 2000000
namespace Go.Proofs.YtnkafkikjcgogaaDoor
open Go.Sx FB

theorem viewNext_c {M : Nat → Prop} (w : World) (hM : Old M w) (bl : Nat → Addr) (hG : At M w (Gl bl)) (ids : List Int) (hids : ∀ x ∈ ids, -9223372036854775808 ≤ x ∧ x ≤ 9223372036854775807) (sa : Option Addr) (sn sc : Nat) (hS : At M w (Sl 1 (ids.map encI) sa sn sc)) :
    Calls Tryd.prog 3 (List.toArray [.slice sa sn sc]) w (Ret No w fun v _ => v = .bool true) := by
  refine enter (n := 132) [(0, .slice sa sn sc)] Tryd.func3 rfl (by kernel_rfl) ?_
  refine seq ?_
  refine region [true] ?_
  refine q_assign (v := .bool false) rfl rfl ?_
  refine done ?_
  refine thenN ?_
  refine seq ?_
  refine region [false, true] ?_
  refine l_call Keep.any rfl (first_c (M := M) w hM bl (hG.on (Evo.refl M _))) en6 rfl rfl (fun v_1 w1 s1 q_2 => ?_)
  have e0_1 : Evo M w w1 := s1.no
  have z1 : Evo No w w1 := s1.no
  obtain rfl := q_2
  refine q_assign (v := .bool true) rfl rfl ?_
  refine done ?_
  refine thenN ?_
  refine seq ?_
  refine seq ?_
  refine region [true, true] ?_
  refine q_move (v := .bool true) rfl rfl ?_
  refine q_not rfl rfl ?_
  refine done ?_
  refine thenN ?_
  refine cond_f rfl ?_
  refine wp_skip ?_
  refine thenN ?_
  refine seq ?_
  refine seq ?_
  refine region [true, true, true, true, true, true, true] ?_
  refine q_move (v := .slice sa sn sc) rfl rfl ?_
  refine q_len rfl rfl el22 ?_
  refine q_gtr rfl rfl rfl ?_
  refine q_move (v := .bool (decide (20 < (sn : Int)))) rfl rfl ?_
  rcases bsplit (decide (20 < (sn : Int))) with h_3 | h_3
  · skip
    have h_3p := of_decide_eq_true h_3
    refine q_no (gtf h_3) ?_
    refine q_no (gtf h_3) ?_
    refine q_pick_bt (v := .bool true) rfl rfl h_3 rfl ?_
    refine done ?_
    refine thenN ?_
    refine cond_t rfl ?_
    refine seq ?_
    refine region [true, true] ?_
    refine q_move (v := .bool true) rfl rfl ?_
    refine q_assign (v := .bool true) rfl rfl ?_
    refine done ?_
    refine thenN ?_
    refine wp_ret ?_
    refine thenR ?_
    refine ret1v (.bool true) rfl rfl ?_
    exact ⟨z1, rfl⟩
  · skip
    have h_3p := of_decide_eq_false h_3
    refine q_move (v := .bool true) (gff h_3) rfl ?_
    refine q_not (gff h_3) rfl ?_
    refine q_pick_bf (v := .bool false) rfl rfl h_3 rfl ?_
    refine done ?_
    refine thenN ?_
    refine cond_f rfl ?_
    refine wp_skip ?_
    refine thenN ?_
    refine seq ?_
    refine region [false, true] ?_
    refine l_call Keep.any rfl (vNew_c (M := M) w1 (hM.on z1)) en7 rfl rfl (fun v_5 w2 s2 q_6 => ?_)
    have e0_2 : Evo M w w2 := e0_1.trans s2.no
    have z2 : Evo No w w2 := z1.trans s2.no
    obtain ⟨bvn_4, bmn_4, rfl, hbn_4, Vn_4, oVn_4⟩ := q_6
    have lbmn_4_0 : w.heap.size ≤ bmn_4 := Nat.le_trans e0_1.size hbn_4
    have lbmn_4_w : w.heap.size ≤ bmn_4 := Nat.le_trans z1.size hbn_4
    refine q_assign (v := .pointer (some ⟨bvn_4, 0, none⟩)) rfl rfl ?_
    refine done ?_
    refine thenN ?_
    refine seq ?_
    refine seq ?_
    refine region [true, true, true, true, false, true, true] ?_
    refine q_move (v := .pointer (some ⟨bvn_4, 0, none⟩)) rfl rfl ?_
    refine q_ptrNil rfl rfl pt24 ?_
    refine q_move (v := .bool false) rfl rfl ?_
    refine q_move (v := .pointer (some ⟨bvn_4, 0, none⟩)) rfl rfl ?_
    refine l_call Keep.any rfl (vNext_c (M := (Plus M bmn_4)) w2 oVn_4 bvn_4 bmn_4 ([]) Vn_4) en8 rfl rfl (fun v_7 w3 s3 q_8 => ?_)
    have e0_3 : Evo M w w3 := e0_2.trans s3.no
    have e2_3 : Evo (Plus M bmn_4) w2 w3 := s3.no
    have z3 : Evo No w w3 := z2.trans s3.no
    have V_9 := Vn_4.no s3
    obtain rfl := q_8
    refine q_neq rfl rfl rfl ?_
    refine q_pick_f (v := .bool (!(decide (nextOf ([]) = 0)))) rfl rfl rfl ?_
    refine done ?_
    refine thenN ?_
    refine cond_bf rfl (notF (decide_eq_true rfl)) ?_
    refine wp_skip ?_
    refine thenN ?_
    refine seq ?_
    refine region [true] ?_
    refine q_assign (v := .int .i64 0) rfl rfl ?_
    refine done ?_
    refine thenN ?_
    refine seq ?_
    refine region [true] ?_
    refine q_assign (v := .int .i64 0) rfl rfl ?_
    refine done ?_
    refine thenN ?_
    refine seq ?_
    refine seq ?_
    refine region [true] ?_
    refine q_assign (v := .int .i64 0) rfl rfl ?_
    refine done ?_
    refine thenN ?_
    refine blk ?_
    refine loopN [32, 33, 34, 35, 38, 39, 40, 41, 42, 8, 43, 44, 45, 46, 47, 9, 48, 49, 50, 51, 10, 52, 53, 54, 55, 6, 56, 57, 58, 59, 5, 60, 61, 62, 63, 64, 65, 66, 67, 68, 69, 70, 71, 72, 73, 74, 75, 76, 77, 78, 79, 2, 80, 81, 82, 83, 84, 85, 86, 36, 37, 7] (fun k9 R9 wJ => ∃ (i : Nat), ∃ (l : List (Int × Mani)), ∃ (nx : Int), ∃ (n : Nat), R9 = [(7, .int .i64 (i : Int)), (5, .int .i64 nx), (6, .int .i64 (n : Int))] ∧ (i ≤ sn) ∧ (Vw (Plus M bmn_4) bvn_4 bmn_4 l wJ) ∧ (Old (Plus M bmn_4) wJ) ∧ (NInv l nx n) ∧ (n ≤ i) ∧ (Evo No w wJ) ∧ k9 = sn - i) ⟨_, _, ⟨0, ([]), 0, 0, rfl, Nat.zero_le _, V_9, (oVn_4.on e2_3), NInv.nil, Nat.le_refl _, z3, rfl⟩, ⟨(by kernel_rfl), (by kernel_rfl), (by kernel_rfl), trivial⟩⟩ (fun k9 R9 u_10 w4 J_11 => ?_)
    obtain ⟨i, l, nx, n, rfl, hi, V9, oM9, I9, hn9, z9, rfl⟩ := J_11
    have e0_4 : Evo M w w4 := z9.no
    refine seq ?_
    refine seq ?_
    refine region [true, true, true, true] ?_
    refine q_move (v := .int .i64 (i : Int)) rfl rfl ?_
    refine q_move (v := .slice sa sn sc) rfl rfl ?_
    refine q_len rfl rfl el22 ?_
    refine q_lss rfl rfl rfl ?_
    refine done ?_
    refine thenN ?_
    refine cond_b rfl (fun h_12 => ?_) (fun h_12 => ?_)
    · skip
      have h_12p := of_decide_eq_true h_12
      refine wp_skip ?_
      refine thenN ?_
      refine seq ?_
      refine blk ?_
      refine seq ?_
      refine region [true, true, true, false, false, true] ?_
      refine q_move (v := .slice sa sn sc) rfl rfl ?_
      refine q_move (v := .int .i64 (i : Int)) rfl rfl ?_
      obtain ⟨x_13, hx_13⟩ := Sl.get (xs := ids) hS.here (i := (i : Int)) (by omega) (by omega)
      have Ax_13 := Sl.areaAt hS (Sl.map_get hx_13)
      refine q_indexS' rfl rfl rfl el22 (hS.here.there (by omega)).1 (by omega) (by omega) ?_
      have hbx_13 := hids x_13 (List.mem_of_getElem? hx_13)
      have hdx_13 : 0 ≤ x_13 % 50 ∧ x_13 % 50 < 50 := by omega
      refine l_load trivial rfl rfl pl3 ((Ax_13.now e0_4) 0 _ rfl) ?_
      refine l_call Keep.any rfl (number_c w4 x_13 50 (by decide) (by decide) (by omega) (by omega)) en9 rfl rfl (fun v_14 w5 s5 q_15 => ?_)
      have e0_5 : Evo M w w5 := e0_4.trans s5.no
      have ev_5 : Evo (Plus M bmn_4) w4 w5 := s5.no
      have z5 : Evo No w w5 := z9.trans s5.no
      have V_16 := V9.no s5
      obtain rfl := q_15
      refine q_assign (v := .int .i64 (x_13 % 50)) rfl rfl ?_
      refine done ?_
      refine thenN ?_
      refine seq ?_
      refine region [true, true, true, true, false, false, false] ?_
      refine q_move (v := .int .i64 (x_13 % 50)) rfl rfl ?_
      refine q_move (v := .int .i64 (x_13 % 50)) rfl rfl ?_
      refine q_mul rfl rfl rfl (wi64 (by omega) (by omega)) ?_
      refine q_sub rfl rfl rfl (wi64 (by omega) (by omega)) ?_
      refine l_call Keep.any rfl (one_c (M := (Plus M bmn_4)) w5 (oM9.on ev_5) (x_13 % 50) (1000 - (10 * (x_13 % 50))) (by omega) (by omega) (by omega) (by omega)) en10 rfl rfl (fun v_20 w6 s6 q_21 => ?_)
      have e0_6 : Evo M w w6 := e0_5.trans s6.no
      have ev_6 : Evo (Plus M bmn_4) w4 w6 := ev_5.trans s6.no
      have z6 : Evo No w w6 := z5.trans s6.no
      have V_22 := V_16.no s6
      obtain ⟨cs_17, rfl, hC_18⟩ := q_21
      obtain ⟨eam_19, enm_19, ecm_19, oam_19, onm_19, ocm_19, rfl, eNm_19, oNm_19, hem_19, hom_19⟩ := Mrd.open hC_18
      refine l_alloc (M := (Plus M bmn_4)) Keep.any (oM9.on ev_6) rfl ze31 (fun k_23 w7 s7 ck_23 nk_23 ok_23 => ?_)
      have lk_23_0 : w.heap.size ≤ k_23 := Nat.le_trans e0_6.size nk_23
      have lk_23_v : w4.heap.size ≤ k_23 := Nat.le_trans ev_6.size nk_23
      have lk_23_6 : w6.heap.size ≤ k_23 := Nat.le_trans (Evo.refl (Plus M bmn_4) _).size nk_23
      have lk_23_w : w.heap.size ≤ k_23 := Nat.le_trans z6.size nk_23
      have hvk_23 := V_22.lt
      have hwk_23 : bmn_4 < k_23 := Nat.lt_of_lt_of_le hvk_23 nk_23
      have e0_7 : Evo M w w7 := e0_6.trans s7.no
      have ev_7 : Evo (Plus M bmn_4) w4 w7 := ev_6.trans s7.no
      have e6_7 : Evo (Plus M bmn_4) w6 w7 := s7.no
      have z7 : Evo No w w7 := z6.trans s7.no
      have V_24 := V_22.no s7
      have hlk_23 := ck_23.lt
      have V_25 := V_22.grow s7 nk_23
      refine l_store Keep.any rfl rfl ck_23 rfl sz31 rfl (Nat.le_of_ble_eq_true rfl) rfl (cs' := [.int .i64 (x_13 % 50), .int .i64 (1000 - (10 * (x_13 % 50))), .int .i64 (1000 - (10 * (x_13 % 50)) + 5), .int .i64 0, .slice eam_19 enm_19 ecm_19, .slice oam_19 onm_19 ocm_19]) rfl (fun w8 s8 c_26 => ?_)
      have e0_8 : Evo M w w8 := e0_7.fresh s8 lk_23_0
      have ev_8 : Evo (Plus M bmn_4) w4 w8 := ev_7.fresh s8 lk_23_v
      have e6_8 : Evo (Plus M bmn_4) w6 w8 := e6_7.fresh s8 lk_23_6
      have e7_8 : Evo (Plus (Plus M bmn_4) k_23) w7 w8 := (Evo.refl (Plus (Plus M bmn_4) k_23) _).fstep s8 (inX Plus.in)
      have z8 : Evo No w w8 := z7.fresh s8 lk_23_w
      have V_27 := V_25.on s8 (by omega) (inX Plus.in)
      refine done ?_
      refine thenN ?_
      refine seq ?_
      refine region [true, false, true, false, true] ?_
      refine q_move (v := .pointer (some ⟨bvn_4, 0, none⟩)) rfl rfl ?_
      refine l_loadBN ([.int .i64 (x_13 % 50), .int .i64 (1000 - (10 * (x_13 % 50))), .int .i64 (1000 - (10 * (x_13 % 50)) + 5), .int .i64 0, .slice eam_19 enm_19 ecm_19, .slice oam_19 onm_19 ocm_19]) trivial rfl rfl ag31 rfl c_26 rfl ?_
      refine q_build (.agg (List.toArray [.int .i64 1, .int .i64 (x_13 % 50), .int .i64 (1000 - (10 * (x_13 % 50))), .int .i64 (1000 - (10 * (x_13 % 50)) + 5), .int .i64 0, .slice eam_19 enm_19 ecm_19, .slice oam_19 onm_19 ocm_19])) rfl rfl (fun _ => by kernel_rfl) ?_
      refine l_call Keep.any rfl (vApply_c (M := (Plus (Plus M bmn_4) k_23)) w8 (ok_23.on e7_8) bl (At.up (N := (Plus (Plus M bmn_4) k_23)) hG e0_8 (fun x0 h1 h0 => by rcases h0 with ((h0 | h0) | h0) <;> first | exact h0 | omega)) bvn_4 bmn_4 l V_27 1 (oneM (x_13 % 50) (1000 - (10 * (x_13 % 50)))) _ _ _ _ _ _ (At.up (N := (Plus (Plus M bmn_4) k_23)) hem_19 e6_8 (fun x0 h1 h0 => by rcases h0 with (h0 | h0) <;> first | exact h0 | omega)) (At.up (N := (Plus (Plus M bmn_4) k_23)) hom_19 e6_8 (fun x0 h1 h0 => by rcases h0 with (h0 | h0) <;> first | exact h0 | omega)) eNm_19 oNm_19) en11 rfl rfl (fun v_29 w9 s9 q_30 => ?_)
      have e0_9 : Evo M w w9 := e0_8.fresh s9 lbmn_4_0
      have ev_9 : Evo (Plus M bmn_4) w4 w9 := ev_8.fstep s9 (inX Plus.in)
      have e6_9 : Evo (Plus M bmn_4) w6 w9 := e6_8.fstep s9 (inX Plus.in)
      have e7_9 : Evo (Plus (Plus M bmn_4) k_23) w7 w9 := e7_8.fstep s9 (inX (Plus.old Plus.in))
      have z9 : Evo No w w9 := z8.fresh s9 lbmn_4_w
      have c_31 := c_26.on s9 (by first | omega | (intro h0; subst h0; omega))
      obtain ⟨E_28, V_33⟩ := q_30
      refine q_assign (v := v_29) rfl rfl ?_
      refine done ?_
      refine thenN ?_
      refine seq ?_
      refine seq ?_
      refine region [true, true] ?_
      refine q_move (v := v_29) rfl rfl ?_
      rcases ErIs.cases E_28.here with ⟨h_34, rfl⟩ | ⟨h_34, t_35, u_36, rfl⟩
      · skip
        have S9 := I9.step (by omega) hdx_13.1 hdx_13.2 h_34
        refine q_nilEql rfl rfl if34 ?_
        refine done ?_
        refine thenN ?_
        refine cond_t rfl ?_
        refine seq ?_
        refine region [true, true, true] ?_
        refine q_move (v := .int .i64 (n : Int)) rfl rfl ?_
        refine q_add rfl rfl rfl (wi64 (by omega) (by omega)) ?_
        refine q_assign (v := .int .i64 ((n : Int) + 1)) rfl rfl ?_
        refine done ?_
        refine thenN ?_
        refine seq ?_
        refine region [true, true, true, true, true] ?_
        refine q_move (v := .int .i64 nx) rfl rfl ?_
        refine q_move (v := .int .i64 (x_13 % 50)) rfl rfl ?_
        refine q_add rfl rfl rfl (wi64 (by omega) (by omega)) ?_
        refine q_max rfl rfl rfl ?_
        refine q_assign (v := .int .i64 (if nx < (x_13 % 50) + 1 then (x_13 % 50) + 1 else nx)) rfl rfl ?_
        refine done ?_
        refine thenN ?_
        refine seq ?_
        refine region [true, true, true, false, true, true, true, true, false, true, false, true, true, true, false, true, false, true, true, true] ?_
        refine q_move (v := .slice sa sn sc) rfl rfl ?_
        refine q_move (v := .int .i64 (i : Int)) rfl rfl ?_
        refine q_indexS' rfl rfl rfl el22 (hS.here.there (by omega)).1 (by omega) (by omega) ?_
        refine l_load trivial rfl rfl pl3 ((Ax_13.now e0_9) 0 _ rfl) ?_
        refine q_rem rfl rfl rfl (by decide) rfl ?_
        refine q_eql rfl rfl rfl ?_
        refine q_move (v := .bool (decide ((x_13).tmod 3 = 0))) rfl rfl ?_
        rcases bsplit (decide ((x_13).tmod 3 = 0)) with h_37 | h_37
        · skip
          have h_37p := of_decide_eq_true h_37
          refine q_move (v := .pointer (some ⟨bvn_4, 0, none⟩)) (gtt h_37) rfl ?_
          refine l_loadBN ([.int .i64 (x_13 % 50), .int .i64 (1000 - (10 * (x_13 % 50))), .int .i64 (1000 - (10 * (x_13 % 50)) + 5), .int .i64 0, .slice eam_19 enm_19 ecm_19, .slice oam_19 onm_19 ocm_19]) trivial (gtt h_37) rfl ag31 rfl c_31 rfl ?_
          refine q_build (.agg (List.toArray [.int .i64 3, .int .i64 (x_13 % 50), .int .i64 (1000 - (10 * (x_13 % 50))), .int .i64 (1000 - (10 * (x_13 % 50)) + 5), .int .i64 0, .slice eam_19 enm_19 ecm_19, .slice oam_19 onm_19 ocm_19])) (gtt h_37) rfl (fun _ => by kernel_rfl) ?_
          refine l_call Keep.any (gtt h_37) (vApply_c (M := (Plus (Plus M bmn_4) k_23)) w9 (ok_23.on e7_9) bl (At.up (N := (Plus (Plus M bmn_4) k_23)) hG e0_9 (fun x0 h1 h0 => by rcases h0 with ((h0 | h0) | h0) <;> first | exact h0 | omega)) bvn_4 bmn_4 (applyV l 1 (oneM (x_13 % 50) (1000 - (10 * (x_13 % 50))))) V_33 3 (oneM (x_13 % 50) (1000 - (10 * (x_13 % 50)))) _ _ _ _ _ _ (At.up (N := (Plus (Plus M bmn_4) k_23)) hem_19 e6_9 (fun x0 h1 h0 => by rcases h0 with (h0 | h0) <;> first | exact h0 | omega)) (At.up (N := (Plus (Plus M bmn_4) k_23)) hom_19 e6_9 (fun x0 h1 h0 => by rcases h0 with (h0 | h0) <;> first | exact h0 | omega)) eNm_19 oNm_19) en11 rfl rfl (fun v_39 w10 s10 q_40 => ?_)
          have e0_10 : Evo M w w10 := e0_9.fresh s10 lbmn_4_0
          have ev_10 : Evo (Plus M bmn_4) w4 w10 := ev_9.fstep s10 (inX Plus.in)
          have e6_10 : Evo (Plus M bmn_4) w6 w10 := e6_9.fstep s10 (inX Plus.in)
          have e7_10 : Evo (Plus (Plus M bmn_4) k_23) w7 w10 := e7_9.fstep s10 (inX (Plus.old Plus.in))
          have e9_10 : Evo (Plus (Plus M bmn_4) k_23) w9 w10 := (Evo.refl (Plus (Plus M bmn_4) k_23) _).fstep s10 (inX (Plus.old Plus.in))
          have z10 : Evo No w w10 := z9.fresh s10 lbmn_4_w
          have c_41 := c_31.on s10 (by first | omega | (intro h0; subst h0; omega))
          obtain ⟨E_38, V_43⟩ := q_40
          rcases ErIs.cases E_38.here with ⟨h_44, rfl⟩ | ⟨h_44, t_45, u_46, rfl⟩
          · skip
            refine q_nilNeq (gtt h_37) rfl if34 ?_
            refine q_move (v := .bool false) (gtt h_37) rfl ?_
            refine q_move (v := .pointer (some ⟨bvn_4, 0, none⟩)) rfl rfl ?_
            refine l_loadBN ([.int .i64 (x_13 % 50), .int .i64 (1000 - (10 * (x_13 % 50))), .int .i64 (1000 - (10 * (x_13 % 50)) + 5), .int .i64 0, .slice eam_19 enm_19 ecm_19, .slice oam_19 onm_19 ocm_19]) trivial rfl rfl ag31 rfl c_41 rfl ?_
            refine q_build (.agg (List.toArray [.int .i64 4, .int .i64 (x_13 % 50), .int .i64 (1000 - (10 * (x_13 % 50))), .int .i64 (1000 - (10 * (x_13 % 50)) + 5), .int .i64 0, .slice eam_19 enm_19 ecm_19, .slice oam_19 onm_19 ocm_19])) rfl rfl (fun _ => by kernel_rfl) ?_
            refine l_call Keep.any rfl (vApply_c (M := (Plus (Plus M bmn_4) k_23)) w10 (ok_23.on e7_10) bl (At.up (N := (Plus (Plus M bmn_4) k_23)) hG e0_10 (fun x0 h1 h0 => by rcases h0 with ((h0 | h0) | h0) <;> first | exact h0 | omega)) bvn_4 bmn_4 (applyV (applyV l 1 (oneM (x_13 % 50) (1000 - (10 * (x_13 % 50))))) 3 (oneM (x_13 % 50) (1000 - (10 * (x_13 % 50))))) V_43 4 (oneM (x_13 % 50) (1000 - (10 * (x_13 % 50)))) _ _ _ _ _ _ (At.up (N := (Plus (Plus M bmn_4) k_23)) hem_19 e6_10 (fun x0 h1 h0 => by rcases h0 with (h0 | h0) <;> first | exact h0 | omega)) (At.up (N := (Plus (Plus M bmn_4) k_23)) hom_19 e6_10 (fun x0 h1 h0 => by rcases h0 with (h0 | h0) <;> first | exact h0 | omega)) eNm_19 oNm_19) en11 rfl rfl (fun v_48 w11 s11 q_49 => ?_)
            have e0_11 : Evo M w w11 := e0_10.fresh s11 lbmn_4_0
            have ev_11 : Evo (Plus M bmn_4) w4 w11 := ev_10.fstep s11 (inX Plus.in)
            have e6_11 : Evo (Plus M bmn_4) w6 w11 := e6_10.fstep s11 (inX Plus.in)
            have e7_11 : Evo (Plus (Plus M bmn_4) k_23) w7 w11 := e7_10.fstep s11 (inX (Plus.old Plus.in))
            have e9_11 : Evo (Plus (Plus M bmn_4) k_23) w9 w11 := e9_10.fstep s11 (inX (Plus.old Plus.in))
            have e10_11 : Evo (Plus (Plus M bmn_4) k_23) w10 w11 := (Evo.refl (Plus (Plus M bmn_4) k_23) _).fstep s11 (inX (Plus.old Plus.in))
            have z11 : Evo No w w11 := z10.fresh s11 lbmn_4_w
            have c_50 := c_41.on s11 (by first | omega | (intro h0; subst h0; omega))
            obtain ⟨E_47, V_52⟩ := q_49
            rcases ErIs.cases E_47.here with ⟨h_53, rfl⟩ | ⟨h_53, t_54, u_55, rfl⟩
            · skip
              refine q_nilNeq rfl rfl if34 ?_
              refine q_pick_f (v := .bool false) (gtt h_37) rfl rfl ?_
              refine q_pick_bt (v := .bool false) rfl rfl h_37 rfl ?_
              refine done ?_
              refine thenN ?_
              refine cond_f rfl ?_
              refine wp_skip ?_
              refine thenN ?_
              refine seq ?_
              refine region [true, false, true, true] ?_
              refine q_move (v := .pointer (some ⟨bvn_4, 0, none⟩)) rfl rfl ?_
              refine l_call Keep.any rfl (vNext_c (M := (Plus (Plus M bmn_4) k_23)) w11 (ok_23.on e7_11) bvn_4 bmn_4 (applyV (applyV (applyV l 1 (oneM (x_13 % 50) (1000 - (10 * (x_13 % 50))))) 3 (oneM (x_13 % 50) (1000 - (10 * (x_13 % 50))))) 4 (oneM (x_13 % 50) (1000 - (10 * (x_13 % 50))))) V_52) en8 rfl rfl (fun v_56 w12 s12 q_57 => ?_)
              have e0_12 : Evo M w w12 := e0_11.trans s12.no
              have ev_12 : Evo (Plus M bmn_4) w4 w12 := ev_11.trans s12.no
              have e6_12 : Evo (Plus M bmn_4) w6 w12 := e6_11.trans s12.no
              have e7_12 : Evo (Plus (Plus M bmn_4) k_23) w7 w12 := e7_11.trans s12.no
              have e9_12 : Evo (Plus (Plus M bmn_4) k_23) w9 w12 := e9_11.trans s12.no
              have e10_12 : Evo (Plus (Plus M bmn_4) k_23) w10 w12 := e10_11.trans s12.no
              have e11_12 : Evo (Plus (Plus M bmn_4) k_23) w11 w12 := s12.no
              have z12 : Evo No w w12 := z11.trans s12.no
              have c_58 := c_50.no s12
              have V_59 := V_52.no s12
              obtain rfl := q_57
              refine q_move (v := .int .i64 (if nx < (x_13 % 50) + 1 then (x_13 % 50) + 1 else nx)) rfl rfl ?_
              refine q_neq rfl rfl rfl ?_
              refine done ?_
              refine thenN ?_
              refine cond_b rfl (fun h_60 => ?_) (fun h_60 => ?_)
              · skip
                have h_61 := unT h_60
                have h_61p := of_decide_eq_false h_61
                exact absurd S9.gone.next (of_decide_eq_false h_61)
              · skip
                have h_62 := unF h_60
                have h_62p := of_decide_eq_true h_62
                refine wp_skip ?_
                refine blkN ?_
                refine thenN ?_
                refine region [true, true, true] ?_
                refine q_move (v := .int .i64 (i : Int)) rfl rfl ?_
                refine q_add rfl rfl rfl (wi64 (by omega) (by omega)) ?_
                refine q_assign (v := .int .i64 ((i : Int) + 1)) rfl rfl ?_
                refine done ?_
                refine thenN ?_
                refine ⟨_, _, ?_, ⟨i + 1, (applyV (applyV (applyV l 1 (oneM (x_13 % 50) (1000 - (10 * (x_13 % 50))))) 3 (oneM (x_13 % 50) (1000 - (10 * (x_13 % 50))))) 4 (oneM (x_13 % 50) (1000 - (10 * (x_13 % 50))))), (if nx < x_13 % 50 + 1 then x_13 % 50 + 1 else nx), n + 1, rfl, by omega, (V_59.to (fun x hx => .inl (hx)) Plus.in), (oM9.on ev_12), S9.gone, by omega, z12, rfl⟩, Env.near_at 123 (by kernel_rfl) (by kernel_rfl) ⟨(Eq.trans (b := Go.Value.int .i64 ((i : Int) + 1)) (by kernel_rfl) (nextI i)), (by kernel_rfl), (Eq.trans (b := Go.Value.int .i64 ((n : Int) + 1)) (by kernel_rfl) (nextI n)), trivial⟩⟩
                omega
            · skip
              exact absurd S9.e4 h_53
          · skip
            exact absurd S9.e3 h_44
        · skip
          have h_37p := of_decide_eq_false h_37
          refine q_no (gft h_37) ?_
          refine l_no (gft h_37) ?_
          refine q_no (gft h_37) ?_
          refine l_no (gft h_37) ?_
          refine q_no (gft h_37) ?_
          refine q_no (gft h_37) ?_
          refine q_no rfl ?_
          refine l_no rfl ?_
          refine q_no rfl ?_
          refine l_no rfl ?_
          refine q_no rfl ?_
          refine q_no (gft h_37) ?_
          refine q_pick_bf (v := .bool false) rfl rfl h_37 rfl ?_
          refine done ?_
          refine thenN ?_
          refine cond_f rfl ?_
          refine wp_skip ?_
          refine thenN ?_
          refine seq ?_
          refine region [true, false, true, true] ?_
          refine q_move (v := .pointer (some ⟨bvn_4, 0, none⟩)) rfl rfl ?_
          refine l_call Keep.any rfl (vNext_c (M := (Plus (Plus M bmn_4) k_23)) w9 (ok_23.on e7_9) bvn_4 bmn_4 (applyV l 1 (oneM (x_13 % 50) (1000 - (10 * (x_13 % 50))))) V_33) en8 rfl rfl (fun v_63 w10 s10 q_64 => ?_)
          have e0_10 : Evo M w w10 := e0_9.trans s10.no
          have ev_10 : Evo (Plus M bmn_4) w4 w10 := ev_9.trans s10.no
          have e6_10 : Evo (Plus M bmn_4) w6 w10 := e6_9.trans s10.no
          have e7_10 : Evo (Plus (Plus M bmn_4) k_23) w7 w10 := e7_9.trans s10.no
          have e9_10 : Evo (Plus (Plus M bmn_4) k_23) w9 w10 := s10.no
          have z10 : Evo No w w10 := z9.trans s10.no
          have c_65 := c_31.no s10
          have V_66 := V_33.no s10
          obtain rfl := q_64
          refine q_move (v := .int .i64 (if nx < (x_13 % 50) + 1 then (x_13 % 50) + 1 else nx)) rfl rfl ?_
          refine q_neq rfl rfl rfl ?_
          refine done ?_
          refine thenN ?_
          refine cond_b rfl (fun h_67 => ?_) (fun h_67 => ?_)
          · skip
            have h_68 := unT h_67
            have h_68p := of_decide_eq_false h_68
            exact absurd S9.one.next (of_decide_eq_false h_68)
          · skip
            have h_69 := unF h_67
            have h_69p := of_decide_eq_true h_69
            refine wp_skip ?_
            refine blkN ?_
            refine thenN ?_
            refine region [true, true, true] ?_
            refine q_move (v := .int .i64 (i : Int)) rfl rfl ?_
            refine q_add rfl rfl rfl (wi64 (by omega) (by omega)) ?_
            refine q_assign (v := .int .i64 ((i : Int) + 1)) rfl rfl ?_
            refine done ?_
            refine thenN ?_
            refine ⟨_, _, ?_, ⟨i + 1, (applyV l 1 (oneM (x_13 % 50) (1000 - (10 * (x_13 % 50))))), (if nx < x_13 % 50 + 1 then x_13 % 50 + 1 else nx), n + 1, rfl, by omega, (V_66.to (fun x hx => .inl (hx)) Plus.in), (oM9.on ev_10), S9.one, by omega, z10, rfl⟩, Env.near_at 123 (by kernel_rfl) (by kernel_rfl) ⟨(Eq.trans (b := Go.Value.int .i64 ((i : Int) + 1)) (by kernel_rfl) (nextI i)), (by kernel_rfl), (Eq.trans (b := Go.Value.int .i64 ((n : Int) + 1)) (by kernel_rfl) (nextI n)), trivial⟩⟩
            omega
      · skip
        have K9 := I9.old (by omega) hdx_13.1 hdx_13.2 h_34
        have hl9 := NInv.same h_34
        have K0 : NInv (applyV l 1 (oneM (x_13 % 50) (1000 - 10 * (x_13 % 50)))) nx n := by rw [hl9]; exact I9
        refine q_ifEql rfl rfl if34 ?_
        refine done ?_
        refine thenN ?_
        refine cond_f rfl ?_
        refine seq ?_
        refine region [true, false, true] ?_
        refine q_move (v := .iface t_35 (u_36)) rfl rfl ?_
        refine l_call Keep.any rfl (seeIs_c (M := (Plus (Plus M bmn_4) k_23)) w9 (ok_23.on e7_9) bl (At.up (N := (Plus (Plus M bmn_4) k_23)) hG e0_9 (fun x0 h1 h0 => by rcases h0 with ((h0 | h0) | h0) <;> first | exact h0 | omega)) (applyErr l 1 (oneM (x_13 % 50) (1000 - (10 * (x_13 % 50))))) (.iface t_35 (u_36)) (E_28.on (Evo.refl (Plus (Plus M bmn_4) k_23) _)) (applyErr_small _ _ _) 113) en12 rfl rfl (fun v_70 w10 s10 q_71 => ?_)
        have e0_10 : Evo M w w10 := e0_9.trans s10.no
        have ev_10 : Evo (Plus M bmn_4) w4 w10 := ev_9.trans s10.no
        have e6_10 : Evo (Plus M bmn_4) w6 w10 := e6_9.trans s10.no
        have e7_10 : Evo (Plus (Plus M bmn_4) k_23) w7 w10 := e7_9.trans s10.no
        have e9_10 : Evo (Plus (Plus M bmn_4) k_23) w9 w10 := s10.no
        have z10 : Evo No w w10 := z9.trans s10.no
        have c_72 := c_31.no s10
        have V_73 := V_33.no s10
        obtain rfl := q_71
        refine q_not rfl rfl ?_
        refine done ?_
        refine thenN ?_
        refine cond_bf rfl (notF K9) ?_
        refine wp_skip ?_
        refine thenN ?_
        refine seq ?_
        refine region [true, false, true, true] ?_
        refine q_move (v := .pointer (some ⟨bvn_4, 0, none⟩)) rfl rfl ?_
        refine l_call Keep.any rfl (vNext_c (M := (Plus (Plus M bmn_4) k_23)) w10 (ok_23.on e7_10) bvn_4 bmn_4 (applyV l 1 (oneM (x_13 % 50) (1000 - (10 * (x_13 % 50))))) V_73) en8 rfl rfl (fun v_74 w11 s11 q_75 => ?_)
        have e0_11 : Evo M w w11 := e0_10.trans s11.no
        have ev_11 : Evo (Plus M bmn_4) w4 w11 := ev_10.trans s11.no
        have e6_11 : Evo (Plus M bmn_4) w6 w11 := e6_10.trans s11.no
        have e7_11 : Evo (Plus (Plus M bmn_4) k_23) w7 w11 := e7_10.trans s11.no
        have e9_11 : Evo (Plus (Plus M bmn_4) k_23) w9 w11 := e9_10.trans s11.no
        have z11 : Evo No w w11 := z10.trans s11.no
        have c_76 := c_72.no s11
        have V_77 := V_73.no s11
        obtain rfl := q_75
        refine q_move (v := .int .i64 nx) rfl rfl ?_
        refine q_neq rfl rfl rfl ?_
        refine done ?_
        refine thenN ?_
        refine cond_b rfl (fun h_78 => ?_) (fun h_78 => ?_)
        · skip
          have h_79 := unT h_78
          have h_79p := of_decide_eq_false h_79
          exact absurd K0.next (of_decide_eq_false h_79)
        · skip
          have h_80 := unF h_78
          have h_80p := of_decide_eq_true h_80
          refine wp_skip ?_
          refine blkN ?_
          refine thenN ?_
          refine region [true, true, true] ?_
          refine q_move (v := .int .i64 (i : Int)) rfl rfl ?_
          refine q_add rfl rfl rfl (wi64 (by omega) (by omega)) ?_
          refine q_assign (v := .int .i64 ((i : Int) + 1)) rfl rfl ?_
          refine done ?_
          refine thenN ?_
          refine ⟨_, _, ?_, ⟨i + 1, (applyV l 1 (oneM (x_13 % 50) (1000 - (10 * (x_13 % 50))))), nx, n, rfl, by omega, (V_77.to (fun x hx => .inl (hx)) Plus.in), (oM9.on ev_11), K0, by omega, z11, rfl⟩, Env.near_at 98 (by kernel_rfl) (by kernel_rfl) ⟨(Eq.trans (b := Go.Value.int .i64 ((i : Int) + 1)) (by kernel_rfl) (nextI i)), (by kernel_rfl), (by kernel_rfl), trivial⟩⟩
          omega
    · skip
      have h_12p := of_decide_eq_false h_12
      refine wp_exit ?_
      refine thenX ?_
      refine thenX ?_
      refine blkX ?_
      refine thenN ?_
      refine seq ?_
      refine region [true, false, false, true] ?_
      refine q_move (v := .pointer (some ⟨bvn_4, 0, none⟩)) rfl rfl ?_
      refine l_buildSlice (M := (Plus M bmn_4)) (e := 3) (cs := [.int .i64 1, .int .i64 2, .int .i64 3, .int .i64 4]) Keep.any (oM9.on (Evo.refl (Plus M bmn_4) _)) rfl rfl (fun _ => by kernel_rfl) (fun k_81 w5 s5 fk_81 nk_81 => ?_)
      have e0_5 : Evo M w w5 := e0_4.trans s5.no
      have ev_5 : Evo (Plus M bmn_4) w4 w5 := s5.no
      have z5 : Evo No w w5 := z9.trans s5.no
      have V_82 := V9.no s5
      have hPs := fk_81.imp fun w9 _ h9 => Sl.ofBlk (k := 1) (rows := [(1 : Int), 2, 3, 4].map encI) h9 rfl (by simp [encI]) rfl
      refine l_call Keep.any rfl (vIn_c (M := (Plus M bmn_4)) w5 (oM9.on ev_5) bvn_4 bmn_4 l V_82 (by rw [I9.len]; omega) [1, 2, 3, 4] _ _ _ (hPs.on (Evo.refl (Plus M bmn_4) _)) (by simp)) en13 rfl rfl (fun v_84 w6 s6 q_85 => ?_)
      have e0_6 : Evo M w w6 := e0_5.trans s6.no
      have ev_6 : Evo (Plus M bmn_4) w4 w6 := ev_5.trans s6.no
      have e5_6 : Evo (Plus M bmn_4) w5 w6 := s6.no
      have z6 : Evo No w w6 := z5.trans s6.no
      have V_86 := V_82.no s6
      obtain ⟨ai_83, ni_83, ci_83, zsi_83, rfl, hpi_83, hsi_83, hzi_83, hmi_83⟩ := q_85
      have hz9 := I9.sorted hpi_83 hsi_83
      have hzl := hzi_83.here.len; rw [List.length_map] at hzl
      refine q_assign (v := .slice ai_83 ni_83 ci_83) rfl rfl ?_
      refine done ?_
      refine thenN ?_
      refine seq ?_
      refine seq ?_
      refine region [true] ?_
      refine q_assign (v := .int .i64 1) rfl rfl ?_
      refine done ?_
      refine thenN ?_
      refine blk ?_
      have hV9 := V_86
      have y_87 := (hzi_83.on (Evo.refl (Plus M bmn_4) _))
      have y_88 := (fk_81.on e5_6)
      refine loopN [90, 91, 92, 93, 96, 97, 98, 99, 100, 101, 102, 103, 104, 105, 106, 107, 108, 109, 110, 111, 112, 113, 114, 115, 116, 117, 118, 119, 120, 121, 2, 94, 95, 12] (fun k9 R9 wJ => ∃ (j : Nat), R9 = [(12, .int .i64 (j : Int))] ∧ (1 ≤ j) ∧ (j ≤ ni_83 + 1) ∧ (Vw (Plus M bmn_4) bvn_4 bmn_4 l wJ) ∧ (Evo No w6 wJ) ∧ (Evo No w wJ) ∧ k9 = ni_83 + 1 - j) ⟨_, _, ⟨1, rfl, Nat.le_refl _, by omega, V_86, Evo.refl _ _, z6, rfl⟩, ⟨(by kernel_rfl), trivial⟩⟩ (fun k9 R9 u_89 w7 J_90 => ?_)
      obtain ⟨j, rfl, hj0, hj, V8, x9j, z9j, rfl⟩ := J_90
      have e0_7 : Evo M w w7 := e0_6.trans x9j.no
      have ev_7 : Evo (Plus M bmn_4) w4 w7 := ev_6.trans x9j.no
      have e5_7 : Evo (Plus M bmn_4) w5 w7 := e5_6.trans x9j.no
      have e6_7 : Evo (Plus M bmn_4) w6 w7 := x9j.no
      have exj_7 : Evo (Plus M bmn_4) w6 w7 := x9j.no
      have enj_7 : Evo No w6 w7 := x9j
      refine seq ?_
      refine seq ?_
      refine region [true, true, true, true] ?_
      refine q_move (v := .int .i64 (j : Int)) rfl rfl ?_
      refine q_move (v := .slice ai_83 ni_83 ci_83) rfl rfl ?_
      refine q_len rfl rfl el39 ?_
      refine q_lss rfl rfl rfl ?_
      refine done ?_
      refine thenN ?_
      refine cond_b rfl (fun h_91 => ?_) (fun h_91 => ?_)
      · skip
        have h_91p := of_decide_eq_true h_91
        refine wp_skip ?_
        refine thenN ?_
        refine seq ?_
        refine blk ?_
        refine seq ?_
        refine regionD No (.q 0 (.q 1 (.q 2 (.q 3 (.q 4 (.q 5 (.q 6 (.q 7 (.q 8 (.q 9 (.q 10 (.q 11 (.q 12 (.q 13 (.q 14 (.q 15 (.q 16 (.q 17 (.q 18 (.q 19 (.q 20 (.q 21 (.q 22 (.q 23 (.q 24 (.q 25 (.nil))))))))))))))))))))))))))) mixed (by kernel_rfl) (by kernel_rfl) (by kernel_rfl) (fun w8 s8 => ?_)
        have e0_8 : Evo M w w8 := e0_7.trans s8.no
        have ev_8 : Evo (Plus M bmn_4) w4 w8 := ev_7.trans s8.no
        have e5_8 : Evo (Plus M bmn_4) w5 w8 := e5_7.trans s8.no
        have e6_8 : Evo (Plus M bmn_4) w6 w8 := e6_7.trans s8.no
        have exj_8 : Evo (Plus M bmn_4) w6 w8 := exj_7.trans s8.no
        have enj_8 : Evo No w6 w8 := enj_7.trans s8.no
        have z8 : Evo No w w8 := z9j.trans s8.no
        have V_92 := V8.no s8
        have rgr_93_8 : Evo No w7 w8 := s8.no
        refine q_move (v := .slice ai_83 ni_83 ci_83) rfl rfl ?_
        refine q_move (v := .int .i64 (j : Int)) rfl rfl ?_
        obtain ⟨x_94, hx_94⟩ := Sl.get (xs := zsi_83) y_87.here (i := (j : Int)) (by omega) (by omega)
        have Ax_94 := Sl.areaAt y_87 (Sl.map_get hx_94)
        refine q_indexS' rfl rfl rfl el39 (y_87.here.there (by omega)).1 (by omega) (by omega) ?_
        refine q_fieldAddr rfl rfl fl31_1 ?_
        refine q_load rfl rfl pl2 (fun w0 e0 => (Ax_94.via exj_7 noX) w0 e0 1 _ rfl) ?_
        refine q_move (v := .slice ai_83 ni_83 ci_83) rfl rfl ?_
        refine q_move (v := .int .i64 (j : Int)) rfl rfl ?_
        refine q_sub rfl rfl rfl (wi64 (by omega) (by omega)) ?_
        obtain ⟨x_95, hx_95⟩ := Sl.get (xs := zsi_83) y_87.here (i := (j : Int) - 1) (by omega) (by omega)
        have Ax_95 := Sl.areaAt y_87 (Sl.map_get hx_95)
        refine q_indexS' rfl rfl rfl el39 (y_87.here.there (by omega)).1 (by omega) (by omega) ?_
        refine q_fieldAddr rfl rfl fl31_1 ?_
        refine q_load rfl rfl pl2 (fun w0 e0 => (Ax_95.via exj_7 noX) w0 e0 1 _ rfl) ?_
        refine q_leq rfl rfl rfl ?_
        refine q_move (v := .bool (decide (x_94.m.base ≤ x_95.m.base))) rfl rfl ?_
        rcases bsplit (decide (x_94.m.base ≤ x_95.m.base)) with h_96 | h_96
        · skip
          have h_96p := of_decide_eq_true h_96
          have hq0 : 1 ≤ j := hj0
          have hq := pair_at hz9.2 (i := j - 1) (j := j) (by omega) (by rw [← show ((j : Int) - 1).toNat = j - 1 from by omega]; exact hx_95) hx_94
          exact absurd (of_decide_eq_true h_96) (by have := hq.1; have := hq.2; omega)
        · skip
          have h_96p := of_decide_eq_false h_96
          refine q_move (v := .slice ai_83 ni_83 ci_83) (gff h_96) rfl ?_
          refine q_move (v := .int .i64 (j : Int)) (gff h_96) rfl ?_
          refine q_indexS' (gff h_96) rfl rfl el39 (y_87.here.there (by omega)).1 (by omega) (by omega) ?_
          refine q_fieldAddr (gff h_96) rfl fl31_0 ?_
          refine q_load (gff h_96) rfl pl3 (fun w0 e0 => (Ax_94.via exj_7 noX) w0 e0 0 _ rfl) ?_
          refine q_move (v := .slice ai_83 ni_83 ci_83) (gff h_96) rfl ?_
          refine q_move (v := .int .i64 (j : Int)) (gff h_96) rfl ?_
          refine q_sub (gff h_96) rfl rfl (wi64 (by omega) (by omega)) ?_
          refine q_indexS' (gff h_96) rfl rfl el39 (y_87.here.there (by omega)).1 (by omega) (by omega) ?_
          refine q_fieldAddr (gff h_96) rfl fl31_0 ?_
          refine q_load (gff h_96) rfl pl3 (fun w0 e0 => (Ax_95.via exj_7 noX) w0 e0 0 _ rfl) ?_
          refine q_geq (gff h_96) rfl rfl ?_
          refine q_pick_bf (v := .bool (decide (x_95.m.id ≤ x_94.m.id))) rfl rfl h_96 rfl ?_
          refine done ?_
          refine thenN ?_
          refine cond_b rfl (fun h_97 => ?_) (fun h_97 => ?_)
          · skip
            have h_97p := of_decide_eq_true h_97
            have hq0 : 1 ≤ j := hj0
            have hq := pair_at hz9.2 (i := j - 1) (j := j) (by omega) (by rw [← show ((j : Int) - 1).toNat = j - 1 from by omega]; exact hx_95) hx_94
            exact absurd (of_decide_eq_true h_97) (by have := hq.1; have := hq.2; omega)
          · skip
            have h_97p := of_decide_eq_false h_97
            refine wp_skip ?_
            refine blkN ?_
            refine thenN ?_
            refine region [true, true, true] ?_
            refine q_move (v := .int .i64 (j : Int)) rfl rfl ?_
            refine q_add rfl rfl rfl (wi64 (by omega) (by omega)) ?_
            refine q_assign (v := .int .i64 ((j : Int) + 1)) rfl rfl ?_
            refine done ?_
            refine thenN ?_
            refine ⟨_, _, ?_, ⟨j + 1, rfl, by omega, by omega, V_92, enj_8, z8, rfl⟩, Env.near_at 68 (by kernel_rfl) (by kernel_rfl) ⟨(Eq.trans (b := Go.Value.int .i64 ((j : Int) + 1)) (by kernel_rfl) (nextI j)), trivial⟩⟩
            omega
      · skip
        have h_91p := of_decide_eq_false h_91
        refine wp_exit ?_
        refine thenX ?_
        refine thenX ?_
        refine blkX ?_
        refine thenN ?_
        refine seq ?_
        refine region [true, true, true, true, true, true, false, true, true, true, true] ?_
        refine q_move (v := .slice ai_83 ni_83 ci_83) rfl rfl ?_
        refine q_len rfl rfl el39 ?_
        refine q_move (v := .int .i64 (n : Int)) rfl rfl ?_
        refine q_eql rfl rfl rfl ?_
        refine q_move (v := .bool (decide ((ni_83 : Int) = (n : Int)))) rfl rfl ?_
        rcases bsplit (decide ((ni_83 : Int) = (n : Int))) with h_98 | h_98
        · skip
          have h_98p := of_decide_eq_true h_98
          refine q_move (v := .pointer (some ⟨bvn_4, 0, none⟩)) (gtt h_98) rfl ?_
          refine l_call Keep.any (gtt h_98) (vIn_c (M := (Plus M bmn_4)) w7 (oM9.on ev_7) bvn_4 bmn_4 l V8 (by rw [I9.len]; omega) [] _ _ _ (fun w9 _ => Sl.nul _ w9) (by decide)) en13 rfl rfl (fun v_100 w8 s8 q_101 => ?_)
          have e0_8 : Evo M w w8 := e0_7.trans s8.no
          have ev_8 : Evo (Plus M bmn_4) w4 w8 := ev_7.trans s8.no
          have e5_8 : Evo (Plus M bmn_4) w5 w8 := e5_7.trans s8.no
          have e6_8 : Evo (Plus M bmn_4) w6 w8 := e6_7.trans s8.no
          have exj_8 : Evo (Plus M bmn_4) w6 w8 := exj_7.trans s8.no
          have enj_8 : Evo No w6 w8 := enj_7.trans s8.no
          have z8 : Evo No w w8 := z9j.trans s8.no
          have V_102 := V8.no s8
          obtain ⟨ai_99, ni_99, ci_99, zsi_99, rfl, hpi_99, hsi_99, hzi_99, hmi_99⟩ := q_101
          have hz0 := NInv.none hpi_99
          have hl0 := hzi_99.here.len; rw [List.length_map] at hl0
          refine q_len (gtt h_98) rfl el39 ?_
          refine q_eql (gtt h_98) rfl rfl ?_
          refine q_pick_bt (v := .bool (decide ((ni_99 : Int) = 0))) rfl rfl h_98 rfl ?_
          refine q_assign (v := .bool (decide ((ni_99 : Int) = 0))) rfl rfl ?_
          refine done ?_
          refine thenN ?_
          refine wp_ret ?_
          refine ret1v (.bool (decide ((ni_99 : Int) = 0))) rfl rfl ?_
          exact ⟨z8, by congr 1; simp; omega⟩
        · skip
          have h_98p := of_decide_eq_false h_98
          refine q_no (gft h_98) ?_
          refine l_no (gft h_98) ?_
          refine q_no (gft h_98) ?_
          refine q_no (gft h_98) ?_
          refine q_pick_bf (v := .bool false) rfl rfl h_98 rfl ?_
          refine q_assign (v := .bool false) rfl rfl ?_
          refine done ?_
          refine thenN ?_
          refine wp_ret ?_
          refine ret1v (.bool false) rfl rfl ?_
          exact ⟨z9j, by congr 1; simp; omega⟩
end Go.Proofs.YtnkafkikjcgogaaDoor
