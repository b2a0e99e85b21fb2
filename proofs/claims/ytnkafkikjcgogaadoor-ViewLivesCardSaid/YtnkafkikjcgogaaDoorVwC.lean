import Derived.Test.YtnkafkikjcgogaaDoorSxh
import Derived.Test.YtnkafkikjcgogaaDoorFC
import Derived.Test.YtnkafkikjcgogaaDoorProg
import Derived.Test.YtnkafkikjcgogaaDoorPmod
import Derived.Test.YtnkafkikjcgogaaDoorVw9
import Derived.Test.YtnkafkikjcgogaaDoorVwA
set_option linter.unusedVariables false
set_option linter.unusedSimpArgs false
set_option maxRecDepth 4000
set_option maxHeartbeats 2000000
namespace Go.Proofs.YtnkafkikjcgogaaDoor
open Go.Sx FC

theorem viewLives_c {M : Nat → Prop} (w : World) (hM : Old M w) (bl : Nat → Addr) (hG : At M w (Gl bl)) (ids : List Int) (hids : ∀ x ∈ ids, -9223372036854775808 ≤ x ∧ x ≤ 9223372036854775807) (sa : Option Addr) (sn sc : Nat) (hS : At M w (Sl 1 (ids.map encI) sa sn sc)) :
    Calls Tryd.prog 4 (List.toArray [.slice sa sn sc]) w (Ret No w fun v _ => v = .bool true) := by
  refine enter (n := 187) [(0, .slice sa sn sc)] Tryd.func4 rfl (by kernel_rfl) ?_
  refine seq ?_
  refine region [true] ?_
  refine q_assign (v := .bool false) rfl rfl ?_
  refine done ?_
  refine thenN ?_
  refine seq ?_
  refine region [false, true] ?_
  refine l_call Keep.any rfl (first_c (M := M) w hM bl (hG.on (Evo.refl M _))) en6 rfl rfl (fun v_1 w1 s1 q_2 => ?_)
  have e0_1 : Evo M w w1 := s1.no
  have z1 : Evo No w w1 := s1.no
  obtain rfl := q_2
  refine q_assign (v := .bool true) rfl rfl ?_
  refine done ?_
  refine thenN ?_
  refine seq ?_
  refine seq ?_
  refine region [true, true] ?_
  refine q_move (v := .bool true) rfl rfl ?_
  refine q_not rfl rfl ?_
  refine done ?_
  refine thenN ?_
  refine cond_f rfl ?_
  refine wp_skip ?_
  refine thenN ?_
  refine seq ?_
  refine seq ?_
  refine region [true, true, true, true, true, true, true] ?_
  refine q_move (v := .slice sa sn sc) rfl rfl ?_
  refine q_len rfl rfl el22 ?_
  refine q_gtr rfl rfl rfl ?_
  refine q_move (v := .bool (decide (30 < (sn : Int)))) rfl rfl ?_
  rcases bsplit (decide (30 < (sn : Int))) with h_3 | h_3
  · skip
    have h_3p := of_decide_eq_true h_3
    refine q_no (gtf h_3) ?_
    refine q_no (gtf h_3) ?_
    refine q_pick_bt (v := .bool true) rfl rfl h_3 rfl ?_
    refine done ?_
    refine thenN ?_
    refine cond_t rfl ?_
    refine seq ?_
    refine region [true, true] ?_
    refine q_move (v := .bool true) rfl rfl ?_
    refine q_assign (v := .bool true) rfl rfl ?_
    refine done ?_
    refine thenN ?_
    refine wp_ret ?_
    refine thenR ?_
    refine ret1v (.bool true) rfl rfl ?_
    exact ⟨z1, rfl⟩
  · skip
    have h_3p := of_decide_eq_false h_3
    refine q_move (v := .bool true) (gff h_3) rfl ?_
    refine q_not (gff h_3) rfl ?_
    refine q_pick_bf (v := .bool false) rfl rfl h_3 rfl ?_
    refine done ?_
    refine thenN ?_
    refine cond_f rfl ?_
    refine wp_skip ?_
    refine thenN ?_
    refine seq ?_
    refine region [false, true] ?_
    refine l_call Keep.any rfl (vNew_c (M := M) w1 (hM.on z1)) en7 rfl rfl (fun v_5 w2 s2 q_6 => ?_)
    have e0_2 : Evo M w w2 := e0_1.trans s2.no
    have z2 : Evo No w w2 := z1.trans s2.no
    obtain ⟨bvn_4, bmn_4, rfl, hbn_4, Vn_4, oVn_4⟩ := q_6
    have lbmn_4_0 : w.heap.size ≤ bmn_4 := Nat.le_trans e0_1.size hbn_4
    have lbmn_4_w : w.heap.size ≤ bmn_4 := Nat.le_trans z1.size hbn_4
    refine q_assign (v := .pointer (some ⟨bvn_4, 0, none⟩)) rfl rfl ?_
    refine done ?_
    refine thenN ?_
    refine seq ?_
    refine seq ?_
    refine region [true, true] ?_
    refine q_move (v := .pointer (some ⟨bvn_4, 0, none⟩)) rfl rfl ?_
    refine q_ptrNil rfl rfl pt24 ?_
    refine done ?_
    refine thenN ?_
    refine cond_f rfl ?_
    refine wp_skip ?_
    refine thenN ?_
    refine seq ?_
    refine region [false, true] ?_
    refine l_makeI (M := (Plus M bmn_4)) (m := 4) Keep.any oVn_4 rfl rfl rfl rfl ap22 ze3 (by decide) (by decide) (fun k_8 w3 s3 ck_8 nk_8 ok_8 => ?_)
    have lk_8_0 : w.heap.size ≤ k_8 := Nat.le_trans e0_2.size nk_8
    have lk_8_2 : w2.heap.size ≤ k_8 := Nat.le_trans (Evo.refl (Plus M bmn_4) _).size nk_8
    have lk_8_w : w.heap.size ≤ k_8 := Nat.le_trans z2.size nk_8
    have hvk_8 := Vn_4.lt
    have hwk_8 : bmn_4 < k_8 := Nat.lt_of_lt_of_le hvk_8 nk_8
    have e0_3 : Evo M w w3 := e0_2.trans s3.no
    have e2_3 : Evo (Plus M bmn_4) w2 w3 := s3.no
    have z3 : Evo No w w3 := z2.trans s3.no
    have V_9 := Vn_4.no s3
    have hlk_8 := ck_8.lt
    have V_10 := Vn_4.grow s3 nk_8
    refine q_assign (v := .slice (some ⟨k_8, 0, none⟩) 4 4) rfl rfl ?_
    refine done ?_
    refine thenN ?_
    refine seq ?_
    refine seq ?_
    refine region [true] ?_
    refine q_assign (v := .int .i64 0) rfl rfl ?_
    refine done ?_
    refine thenN ?_
    refine blk ?_
    refine loopN [31, 32, 33, 34, 37, 38, 39, 40, 41, 7, 42, 43, 44, 45, 46, 8, 47, 48, 49, 50, 51, 52, 53, 9, 54, 55, 56, 57, 58, 59, 60, 61, 62, 63, 64, 65, 66, 67, 68, 69, 70, 71, 72, 73, 74, 75, 76, 77, 78, 79, 80, 81, 82, 83, 84, 85, 86, 87, 88, 89, 90, 91, 92, 93, 94, 95, 96, 97, 98, 99, 100, 101, 102, 10, 103, 104, 105, 106, 107, 11, 108, 109, 110, 111, 2, 112, 113, 114, 115, 116, 12, 13, 117, 118, 121, 122, 123, 124, 125, 126, 127, 128, 129, 130, 131, 132, 133, 134, 135, 136, 137, 138, 139, 140, 141, 142, 143, 144, 145, 146, 147, 148, 149, 150, 151, 152, 153, 154, 155, 156, 157, 158, 159, 160, 161, 119, 120, 162, 163, 164, 14, 15, 165, 166, 167, 168, 171, 172, 173, 174, 175, 176, 177, 178, 179, 180, 181, 182, 169, 170, 183, 184, 185, 186, 35, 36, 6] (fun k9 R9 wJ => ∃ (i : Nat), ∃ (l : List (Int × Mani)), ∃ (ss : List Int), R9 = [(6, .int .i64 (i : Int))] ∧ (i ≤ sn) ∧ (Vw (Plus (Plus M bmn_4) k_8) bvn_4 bmn_4 l wJ) ∧ (Old (Plus (Plus M bmn_4) k_8) wJ) ∧ (LInv l ss) ∧ (Blk k_8 (bk .i64 ss) 3 wJ) ∧ (Evo No w wJ) ∧ k9 = sn - i) ⟨_, _, ⟨0, ([]), [0, 0, 0, 0], rfl, Nat.zero_le _, V_10, ok_8, LInv.nil, ck_8, z3, rfl⟩, ⟨(by kernel_rfl), trivial⟩⟩ (fun k9 R9 u_11 w4 J_12 => ?_)
    obtain ⟨i, l, ss, rfl, hi, V9, oM9, I9, c9, z9, rfl⟩ := J_12
    have e0_4 : Evo M w w4 := z9.no
    have hls := I9.len
    refine seq ?_
    refine seq ?_
    refine region [true, true, true, true] ?_
    refine q_move (v := .int .i64 (i : Int)) rfl rfl ?_
    refine q_move (v := .slice sa sn sc) rfl rfl ?_
    refine q_len rfl rfl el22 ?_
    refine q_lss rfl rfl rfl ?_
    refine done ?_
    refine thenN ?_
    refine cond_b rfl (fun h_13 => ?_) (fun h_13 => ?_)
    · skip
      have h_13p := of_decide_eq_true h_13
      refine wp_skip ?_
      refine thenN ?_
      refine seq ?_
      refine blk ?_
      refine seq ?_
      refine region [true, true, true, false, false, true] ?_
      refine q_move (v := .slice sa sn sc) rfl rfl ?_
      refine q_move (v := .int .i64 (i : Int)) rfl rfl ?_
      obtain ⟨x_14, hx_14⟩ := Sl.get (xs := ids) hS.here (i := (i : Int)) (by omega) (by omega)
      have Ax_14 := Sl.areaAt hS (Sl.map_get hx_14)
      refine q_indexS' rfl rfl rfl el22 (hS.here.there (by omega)).1 (by omega) (by omega) ?_
      have hbx_14 := hids x_14 (List.mem_of_getElem? hx_14)
      have hqx_14 := tdiv_bd x_14 4 (by decide) hbx_14.1 hbx_14.2
      refine l_load trivial rfl rfl pl3 ((Ax_14.now e0_4) 0 _ rfl) ?_
      refine l_call Keep.any rfl (number_v w4 x_14 4 (by decide) (by decide) (by omega) (by omega)) en9 rfl rfl (fun v_16 w5 s5 q_17 => ?_)
      have e0_5 : Evo M w w5 := e0_4.trans s5.no
      have ev_5 : Evo (Plus (Plus M bmn_4) k_8) w4 w5 := s5.no
      have z5 : Evo No w w5 := z9.trans s5.no
      have c_18 := c9.no s5
      have V_19 := V9.no s5
      obtain ⟨r_15, rfl, h0r_15, h1r_15⟩ := q_17
      refine q_assign (v := .int .i64 r_15) rfl rfl ?_
      refine done ?_
      refine thenN ?_
      refine seq ?_
      refine region [true, true, true, true, false, false, false] ?_
      refine q_move (v := .int .i64 r_15) rfl rfl ?_
      refine q_move (v := .int .i64 r_15) rfl rfl ?_
      refine q_mul rfl rfl rfl (wi64 (by omega) (by omega)) ?_
      refine q_sub rfl rfl rfl (wi64 (by omega) (by omega)) ?_
      refine l_call Keep.any rfl (one_c (M := (Plus (Plus M bmn_4) k_8)) w5 (oM9.on ev_5) r_15 (30 - (5 * r_15)) (by omega) (by omega) (by omega) (by omega)) en10 rfl rfl (fun v_23 w6 s6 q_24 => ?_)
      have e0_6 : Evo M w w6 := e0_5.trans s6.no
      have ev_6 : Evo (Plus (Plus M bmn_4) k_8) w4 w6 := ev_5.trans s6.no
      have z6 : Evo No w w6 := z5.trans s6.no
      have c_25 := c_18.no s6
      have V_26 := V_19.no s6
      obtain ⟨cs_20, rfl, hC_21⟩ := q_24
      obtain ⟨eam_22, enm_22, ecm_22, oam_22, onm_22, ocm_22, rfl, eNm_22, oNm_22, hem_22, hom_22⟩ := Mrd.open hC_21
      have olm_22 : onm_22 = 2 := hom_22.here.len
      refine l_alloc (M := (Plus (Plus M bmn_4) k_8)) Keep.any (oM9.on ev_6) rfl ze31 (fun k_27 w7 s7 ck_27 nk_27 ok_27 => ?_)
      have lk_27_0 : w.heap.size ≤ k_27 := Nat.le_trans e0_6.size nk_27
      have lk_27_v : w4.heap.size ≤ k_27 := Nat.le_trans ev_6.size nk_27
      have lk_27_6 : w6.heap.size ≤ k_27 := Nat.le_trans (Evo.refl (Plus (Plus M bmn_4) k_8) _).size nk_27
      have lk_27_w : w.heap.size ≤ k_27 := Nat.le_trans z6.size nk_27
      have hvk_27 := V_26.lt
      have hwk_27 : bmn_4 < k_27 := Nat.lt_of_lt_of_le hvk_27 nk_27
      have hlk_8_k_27 := c_25.lt
      have e0_7 : Evo M w w7 := e0_6.trans s7.no
      have ev_7 : Evo (Plus (Plus M bmn_4) k_8) w4 w7 := ev_6.trans s7.no
      have e6_7 : Evo (Plus (Plus M bmn_4) k_8) w6 w7 := s7.no
      have z7 : Evo No w w7 := z6.trans s7.no
      have c_28 := c_25.no s7
      have V_29 := V_26.no s7
      have hlk_27 := ck_27.lt
      have V_30 := V_26.grow s7 nk_27
      refine l_store Keep.any rfl rfl ck_27 rfl sz31 rfl (Nat.le_of_ble_eq_true rfl) rfl (cs' := [.int .i64 r_15, .int .i64 (30 - (5 * r_15)), .int .i64 (30 - (5 * r_15) + 5), .int .i64 0, .slice eam_22 enm_22 ecm_22, .slice oam_22 onm_22 ocm_22]) rfl (fun w8 s8 c_31 => ?_)
      have e0_8 : Evo M w w8 := e0_7.fresh s8 lk_27_0
      have ev_8 : Evo (Plus (Plus M bmn_4) k_8) w4 w8 := ev_7.fresh s8 lk_27_v
      have e6_8 : Evo (Plus (Plus M bmn_4) k_8) w6 w8 := e6_7.fresh s8 lk_27_6
      have e7_8 : Evo (Plus (Plus (Plus M bmn_4) k_8) k_27) w7 w8 := (Evo.refl (Plus (Plus (Plus M bmn_4) k_8) k_27) _).fstep s8 (inX Plus.in)
      have z8 : Evo No w w8 := z7.fresh s8 lk_27_w
      have c_32 := c_28.on s8 (by first | omega | (intro h0; subst h0; omega))
      have V_33 := V_30.on s8 (by omega) (inX Plus.in)
      refine done ?_
      refine thenN ?_
      refine seq ?_
      refine region [true, true, true, false, true, false, true, true] ?_
      refine q_move (v := .slice sa sn sc) rfl rfl ?_
      refine q_move (v := .int .i64 (i : Int)) rfl rfl ?_
      refine q_indexS' rfl rfl rfl el22 (hS.here.there (by omega)).1 (by omega) (by omega) ?_
      refine l_load trivial rfl rfl pl3 ((Ax_14.now e0_8) 0 _ rfl) ?_
      refine q_quo rfl rfl rfl (by decide) (wi64 hqx_14.1 hqx_14.2) ?_
      refine l_call Keep.any rfl (number_v w8 (x_14.tdiv 4) 4 (by decide) (by decide) (by omega) (by omega)) en9 rfl rfl (fun v_35 w9 s9 q_36 => ?_)
      have e0_9 : Evo M w w9 := e0_8.trans s9.no
      have ev_9 : Evo (Plus (Plus M bmn_4) k_8) w4 w9 := ev_8.trans s9.no
      have e6_9 : Evo (Plus (Plus M bmn_4) k_8) w6 w9 := e6_8.trans s9.no
      have e7_9 : Evo (Plus (Plus (Plus M bmn_4) k_8) k_27) w7 w9 := e7_8.trans s9.no
      have z9 : Evo No w w9 := z8.trans s9.no
      have c_37 := c_32.no s9
      have c_38 := c_31.no s9
      have V_39 := V_33.no s9
      obtain ⟨r_34, rfl, h0r_34, h1r_34⟩ := q_36
      refine q_add rfl rfl rfl (wi64 (by omega) (by omega)) ?_
      refine q_assign (v := .int .i64 (r_34 + 1)) rfl rfl ?_
      refine done ?_
      refine thenN ?_
      obtain ⟨y9, hy9⟩ := get_lt (xs := ss) (i := (r_15).toNat) (by omega)
      refine cutN [54, 55, 56, 57, 58, 59, 60, 61, 62, 63, 64, 65, 66, 67, 68, 69, 70, 71, 72, 73, 74, 75, 76, 77, 78, 79, 80, 81, 82, 83, 84, 85, 86, 87, 88, 89, 90, 91, 92, 93, 94, 95, 96, 97, 98, 99, 100, 101, 102, 10] (fun R9 wJ => R9 = [(10, .bool (nextOk y9 (r_34 + 1)))] ∧ Evo No w9 wJ) ?_ ?_
      · skip
        refine region [true, true, true, true, true, true, false, true, true, true, true, true, true, true, true, true, false, true, true, true, true, true, true, true, true, true, true, false, true, true, true, true, true, false, true, true, true, true, true, true, true, true, true, true, true, false, true, true, true, true] ?_
        refine q_move (v := .int .i64 (r_34 + 1)) rfl rfl ?_
        refine q_eql rfl rfl rfl ?_
        refine q_move (v := .bool (decide (r_34 + 1 = 1))) rfl rfl ?_
        rcases bsplit (decide (r_34 + 1 = 1)) with h_42 | h_42
        · skip
          have h_42p := of_decide_eq_true h_42
          refine q_move (v := .slice (some ⟨k_8, 0, none⟩) 4 4) (gtt h_42) rfl ?_
          refine q_move (v := .int .i64 r_15) (gtt h_42) rfl ?_
          refine q_indexAddr (gtt h_42) rfl rfl el22 (by omega) (by omega) ?_
          refine l_load trivial (gtt h_42) rfl pl3 (Blk.cellI c_37 hy9) ?_
          refine q_eql (gtt h_42) rfl rfl ?_
          refine q_pick_bt (v := .bool (decide (y9 = 0))) rfl rfl h_42 rfl ?_
          refine q_move (v := .bool (decide (y9 = 0))) rfl rfl ?_
          rcases bsplit (decide (y9 = 0)) with h_43 | h_43
          · skip
            have h_43p := of_decide_eq_true h_43
            refine q_no (gtf h_43) ?_
            refine q_no (gtf h_43) ?_
            refine q_no (gtf h_43) ?_
            refine q_no rfl ?_
            refine q_no rfl ?_
            refine q_no rfl ?_
            refine l_no rfl ?_
            refine q_no rfl ?_
            refine q_no (gtf h_43) ?_
            refine q_pick_bt (v := .bool true) rfl rfl h_43 rfl ?_
            refine q_move (v := .bool true) rfl rfl ?_
            refine q_no rfl ?_
            refine q_no rfl ?_
            refine q_no rfl ?_
            refine q_no rfl ?_
            refine q_no rfl ?_
            refine q_no rfl ?_
            refine l_no rfl ?_
            refine q_no rfl ?_
            refine q_no rfl ?_
            refine q_no rfl ?_
            refine q_no rfl ?_
            refine q_no rfl ?_
            refine l_no rfl ?_
            refine q_no rfl ?_
            refine q_no rfl ?_
            refine q_no rfl ?_
            refine q_pick_t (v := .bool true) rfl rfl rfl ?_
            refine q_move (v := .bool true) rfl rfl ?_
            refine q_no rfl ?_
            refine q_no rfl ?_
            refine q_no rfl ?_
            refine q_no rfl ?_
            refine q_no rfl ?_
            refine q_no rfl ?_
            refine l_no rfl ?_
            refine q_no rfl ?_
            refine q_no rfl ?_
            refine q_pick_t (v := .bool true) rfl rfl rfl ?_
            refine q_assign (v := .bool true) rfl rfl ?_
            refine done ?_
            refine thenN ?_
            exact ⟨_, ⟨rfl, Evo.refl _ _⟩, Env.near_at 50 (by kernel_rfl) (by kernel_rfl) ⟨(Eq.trans (b := .bool true) (by kernel_rfl) (congrArg _ (by rw [h_42p]; simp [nextOk, h_43]))), trivial⟩⟩
          · skip
            have h_43p := of_decide_eq_false h_43
            refine q_move (v := .int .i64 (r_34 + 1)) (gff h_43) rfl ?_
            refine q_eql (gff h_43) rfl rfl ?_
            refine q_move (v := .bool (decide (r_34 + 1 = 2))) (gff h_43) rfl ?_
            rcases bsplit (decide (r_34 + 1 = 2)) with h_44 | h_44
            · skip
              have h_44p := of_decide_eq_true h_44
              exact absurd (of_decide_eq_true h_44) (by have := of_decide_eq_true h_42; omega)
            · skip
              have h_44p := of_decide_eq_false h_44
              refine q_no (gft h_44) ?_
              refine q_no (gft h_44) ?_
              refine q_no (gft h_44) ?_
              refine l_no (gft h_44) ?_
              refine q_no (gft h_44) ?_
              refine q_pick_bf (v := .bool false) (gff h_43) rfl h_44 rfl ?_
              refine q_pick_bf (v := .bool false) rfl rfl h_43 rfl ?_
              refine q_move (v := .bool false) rfl rfl ?_
              refine q_move (v := .int .i64 (r_34 + 1)) rfl rfl ?_
              refine q_eql rfl rfl rfl ?_
              refine q_move (v := .bool (decide (r_34 + 1 = 3))) rfl rfl ?_
              rcases bsplit (decide (r_34 + 1 = 3)) with h_45 | h_45
              · skip
                have h_45p := of_decide_eq_true h_45
                exact absurd (of_decide_eq_true h_45) (by have := of_decide_eq_true h_42; omega)
              · skip
                have h_45p := of_decide_eq_false h_45
                refine q_no (gft h_45) ?_
                refine q_no (gft h_45) ?_
                refine q_no (gft h_45) ?_
                refine l_no (gft h_45) ?_
                refine q_no (gft h_45) ?_
                refine q_no (gft h_45) ?_
                refine q_no rfl ?_
                refine q_no rfl ?_
                refine q_no rfl ?_
                refine l_no rfl ?_
                refine q_no rfl ?_
                refine q_no (gft h_45) ?_
                refine q_pick_bf (v := .bool false) rfl rfl h_45 rfl ?_
                refine q_pick_f (v := .bool false) rfl rfl rfl ?_
                refine q_move (v := .bool false) rfl rfl ?_
                refine q_move (v := .int .i64 (r_34 + 1)) rfl rfl ?_
                refine q_eql rfl rfl rfl ?_
                refine q_move (v := .bool (decide (r_34 + 1 = 4))) rfl rfl ?_
                rcases bsplit (decide (r_34 + 1 = 4)) with h_46 | h_46
                · skip
                  have h_46p := of_decide_eq_true h_46
                  exact absurd (of_decide_eq_true h_46) (by have := of_decide_eq_true h_42; omega)
                · skip
                  have h_46p := of_decide_eq_false h_46
                  refine q_no (gft h_46) ?_
                  refine q_no (gft h_46) ?_
                  refine q_no (gft h_46) ?_
                  refine l_no (gft h_46) ?_
                  refine q_no (gft h_46) ?_
                  refine q_pick_bf (v := .bool false) rfl rfl h_46 rfl ?_
                  refine q_pick_f (v := .bool false) rfl rfl rfl ?_
                  refine q_assign (v := .bool false) rfl rfl ?_
                  refine done ?_
                  refine thenN ?_
                  exact ⟨_, ⟨rfl, Evo.refl _ _⟩, Env.near_at 50 (by kernel_rfl) (by kernel_rfl) ⟨(Eq.trans (b := .bool false) (by kernel_rfl) (congrArg _ (by rw [h_42p]; simp [nextOk, h_43]))), trivial⟩⟩
        · skip
          have h_42p := of_decide_eq_false h_42
          refine q_no (gft h_42) ?_
          refine q_no (gft h_42) ?_
          refine q_no (gft h_42) ?_
          refine l_no (gft h_42) ?_
          refine q_no (gft h_42) ?_
          refine q_pick_bf (v := .bool false) rfl rfl h_42 rfl ?_
          refine q_move (v := .bool false) rfl rfl ?_
          refine q_move (v := .int .i64 (r_34 + 1)) rfl rfl ?_
          refine q_eql rfl rfl rfl ?_
          refine q_move (v := .bool (decide (r_34 + 1 = 2))) rfl rfl ?_
          rcases bsplit (decide (r_34 + 1 = 2)) with h_47 | h_47
          · skip
            have h_47p := of_decide_eq_true h_47
            refine q_move (v := .slice (some ⟨k_8, 0, none⟩) 4 4) (gtt h_47) rfl ?_
            refine q_move (v := .int .i64 r_15) (gtt h_47) rfl ?_
            refine q_indexAddr (gtt h_47) rfl rfl el22 (by omega) (by omega) ?_
            refine l_load trivial (gtt h_47) rfl pl3 (Blk.cellI c_37 hy9) ?_
            refine q_eql (gtt h_47) rfl rfl ?_
            refine q_pick_bt (v := .bool (decide (y9 = 1))) rfl rfl h_47 rfl ?_
            refine q_pick_f (v := .bool (decide (y9 = 1))) rfl rfl rfl ?_
            refine q_move (v := .bool (decide (y9 = 1))) rfl rfl ?_
            rcases bsplit (decide (y9 = 1)) with h_48 | h_48
            · skip
              have h_48p := of_decide_eq_true h_48
              refine q_no (gtf h_48) ?_
              refine q_no (gtf h_48) ?_
              refine q_no (gtf h_48) ?_
              refine q_no rfl ?_
              refine q_no rfl ?_
              refine q_no rfl ?_
              refine l_no rfl ?_
              refine q_no rfl ?_
              refine q_no rfl ?_
              refine q_no rfl ?_
              refine q_no rfl ?_
              refine q_no rfl ?_
              refine l_no rfl ?_
              refine q_no rfl ?_
              refine q_no rfl ?_
              refine q_no (gtf h_48) ?_
              refine q_pick_bt (v := .bool true) rfl rfl h_48 rfl ?_
              refine q_move (v := .bool true) rfl rfl ?_
              refine q_no rfl ?_
              refine q_no rfl ?_
              refine q_no rfl ?_
              refine q_no rfl ?_
              refine q_no rfl ?_
              refine q_no rfl ?_
              refine l_no rfl ?_
              refine q_no rfl ?_
              refine q_no rfl ?_
              refine q_pick_t (v := .bool true) rfl rfl rfl ?_
              refine q_assign (v := .bool true) rfl rfl ?_
              refine done ?_
              refine thenN ?_
              exact ⟨_, ⟨rfl, Evo.refl _ _⟩, Env.near_at 50 (by kernel_rfl) (by kernel_rfl) ⟨(Eq.trans (b := .bool true) (by kernel_rfl) (congrArg _ (by rw [h_47p]; simp [nextOk, h_48]))), trivial⟩⟩
            · skip
              have h_48p := of_decide_eq_false h_48
              refine q_move (v := .int .i64 (r_34 + 1)) (gff h_48) rfl ?_
              refine q_eql (gff h_48) rfl rfl ?_
              refine q_move (v := .bool (decide (r_34 + 1 = 3))) (gff h_48) rfl ?_
              rcases bsplit (decide (r_34 + 1 = 3)) with h_49 | h_49
              · skip
                have h_49p := of_decide_eq_true h_49
                exact absurd (of_decide_eq_true h_49) (by have := of_decide_eq_true h_47; omega)
              · skip
                have h_49p := of_decide_eq_false h_49
                refine q_no (gft h_49) ?_
                refine q_no (gft h_49) ?_
                refine q_no (gft h_49) ?_
                refine l_no (gft h_49) ?_
                refine q_no (gft h_49) ?_
                refine q_no (gft h_49) ?_
                refine q_no rfl ?_
                refine q_no rfl ?_
                refine q_no rfl ?_
                refine l_no rfl ?_
                refine q_no rfl ?_
                refine q_no (gft h_49) ?_
                refine q_pick_bf (v := .bool false) (gff h_48) rfl h_49 rfl ?_
                refine q_pick_bf (v := .bool false) rfl rfl h_48 rfl ?_
                refine q_move (v := .bool false) rfl rfl ?_
                refine q_move (v := .int .i64 (r_34 + 1)) rfl rfl ?_
                refine q_eql rfl rfl rfl ?_
                refine q_move (v := .bool (decide (r_34 + 1 = 4))) rfl rfl ?_
                rcases bsplit (decide (r_34 + 1 = 4)) with h_50 | h_50
                · skip
                  have h_50p := of_decide_eq_true h_50
                  exact absurd (of_decide_eq_true h_50) (by have := of_decide_eq_true h_47; omega)
                · skip
                  have h_50p := of_decide_eq_false h_50
                  refine q_no (gft h_50) ?_
                  refine q_no (gft h_50) ?_
                  refine q_no (gft h_50) ?_
                  refine l_no (gft h_50) ?_
                  refine q_no (gft h_50) ?_
                  refine q_pick_bf (v := .bool false) rfl rfl h_50 rfl ?_
                  refine q_pick_f (v := .bool false) rfl rfl rfl ?_
                  refine q_assign (v := .bool false) rfl rfl ?_
                  refine done ?_
                  refine thenN ?_
                  exact ⟨_, ⟨rfl, Evo.refl _ _⟩, Env.near_at 50 (by kernel_rfl) (by kernel_rfl) ⟨(Eq.trans (b := .bool false) (by kernel_rfl) (congrArg _ (by rw [h_47p]; simp [nextOk, h_48]))), trivial⟩⟩
          · skip
            have h_47p := of_decide_eq_false h_47
            refine q_no (gft h_47) ?_
            refine q_no (gft h_47) ?_
            refine q_no (gft h_47) ?_
            refine l_no (gft h_47) ?_
            refine q_no (gft h_47) ?_
            refine q_pick_bf (v := .bool false) rfl rfl h_47 rfl ?_
            refine q_pick_f (v := .bool false) rfl rfl rfl ?_
            refine q_move (v := .bool false) rfl rfl ?_
            refine q_move (v := .int .i64 (r_34 + 1)) rfl rfl ?_
            refine q_eql rfl rfl rfl ?_
            refine q_move (v := .bool (decide (r_34 + 1 = 3))) rfl rfl ?_
            rcases bsplit (decide (r_34 + 1 = 3)) with h_51 | h_51
            · skip
              have h_51p := of_decide_eq_true h_51
              refine q_move (v := .slice (some ⟨k_8, 0, none⟩) 4 4) (gtt h_51) rfl ?_
              refine q_move (v := .int .i64 r_15) (gtt h_51) rfl ?_
              refine q_indexAddr (gtt h_51) rfl rfl el22 (by omega) (by omega) ?_
              refine l_load trivial (gtt h_51) rfl pl3 (Blk.cellI c_37 hy9) ?_
              refine q_eql (gtt h_51) rfl rfl ?_
              refine q_move (v := .bool (decide (y9 = 1))) (gtt h_51) rfl ?_
              rcases bsplit (decide (y9 = 1)) with h_52 | h_52
              · skip
                have h_52p := of_decide_eq_true h_52
                refine q_no (gtf h_52) ?_
                refine q_no (gtf h_52) ?_
                refine q_no (gtf h_52) ?_
                refine l_no (gtf h_52) ?_
                refine q_no (gtf h_52) ?_
                refine q_pick_bt (v := .bool true) (gtt h_51) rfl h_52 rfl ?_
                refine q_pick_bt (v := .bool true) rfl rfl h_51 rfl ?_
                refine q_pick_f (v := .bool true) rfl rfl rfl ?_
                refine q_move (v := .bool true) rfl rfl ?_
                refine q_no rfl ?_
                refine q_no rfl ?_
                refine q_no rfl ?_
                refine q_no rfl ?_
                refine q_no rfl ?_
                refine q_no rfl ?_
                refine l_no rfl ?_
                refine q_no rfl ?_
                refine q_no rfl ?_
                refine q_pick_t (v := .bool true) rfl rfl rfl ?_
                refine q_assign (v := .bool true) rfl rfl ?_
                refine done ?_
                refine thenN ?_
                exact ⟨_, ⟨rfl, Evo.refl _ _⟩, Env.near_at 50 (by kernel_rfl) (by kernel_rfl) ⟨(Eq.trans (b := .bool true) (by kernel_rfl) (congrArg _ (by rw [h_51p]; simp [nextOk, h_52]))), trivial⟩⟩
              · skip
                have h_52p := of_decide_eq_false h_52
                refine q_move (v := .slice (some ⟨k_8, 0, none⟩) 4 4) (gff h_52) rfl ?_
                refine q_move (v := .int .i64 r_15) (gff h_52) rfl ?_
                refine q_indexAddr (gff h_52) rfl rfl el22 (by omega) (by omega) ?_
                refine l_load trivial (gff h_52) rfl pl3 (Blk.cellI c_37 hy9) ?_
                refine q_eql (gff h_52) rfl rfl ?_
                refine q_pick_bf (v := .bool (decide (y9 = 2))) (gtt h_51) rfl h_52 rfl ?_
                refine q_pick_bt (v := .bool (decide (y9 = 2))) rfl rfl h_51 rfl ?_
                refine q_pick_f (v := .bool (decide (y9 = 2))) rfl rfl rfl ?_
                refine q_move (v := .bool (decide (y9 = 2))) rfl rfl ?_
                rcases bsplit (decide (y9 = 2)) with h_53 | h_53
                · skip
                  have h_53p := of_decide_eq_true h_53
                  refine q_no (gtf h_53) ?_
                  refine q_no (gtf h_53) ?_
                  refine q_no (gtf h_53) ?_
                  refine q_no rfl ?_
                  refine q_no rfl ?_
                  refine q_no rfl ?_
                  refine l_no rfl ?_
                  refine q_no rfl ?_
                  refine q_no (gtf h_53) ?_
                  refine q_pick_bt (v := .bool true) rfl rfl h_53 rfl ?_
                  refine q_assign (v := .bool true) rfl rfl ?_
                  refine done ?_
                  refine thenN ?_
                  exact ⟨_, ⟨rfl, Evo.refl _ _⟩, Env.near_at 50 (by kernel_rfl) (by kernel_rfl) ⟨(Eq.trans (b := .bool true) (by kernel_rfl) (congrArg _ (by rw [h_51p]; simp [nextOk, h_52, h_53]))), trivial⟩⟩
                · skip
                  have h_53p := of_decide_eq_false h_53
                  refine q_move (v := .int .i64 (r_34 + 1)) (gff h_53) rfl ?_
                  refine q_eql (gff h_53) rfl rfl ?_
                  refine q_move (v := .bool (decide (r_34 + 1 = 4))) (gff h_53) rfl ?_
                  rcases bsplit (decide (r_34 + 1 = 4)) with h_54 | h_54
                  · skip
                    have h_54p := of_decide_eq_true h_54
                    exact absurd (of_decide_eq_true h_54) (by have := of_decide_eq_true h_51; omega)
                  · skip
                    have h_54p := of_decide_eq_false h_54
                    refine q_no (gft h_54) ?_
                    refine q_no (gft h_54) ?_
                    refine q_no (gft h_54) ?_
                    refine l_no (gft h_54) ?_
                    refine q_no (gft h_54) ?_
                    refine q_pick_bf (v := .bool false) (gff h_53) rfl h_54 rfl ?_
                    refine q_pick_bf (v := .bool false) rfl rfl h_53 rfl ?_
                    refine q_assign (v := .bool false) rfl rfl ?_
                    refine done ?_
                    refine thenN ?_
                    exact ⟨_, ⟨rfl, Evo.refl _ _⟩, Env.near_at 50 (by kernel_rfl) (by kernel_rfl) ⟨(Eq.trans (b := .bool false) (by kernel_rfl) (congrArg _ (by rw [h_51p]; simp [nextOk, h_52, h_53]))), trivial⟩⟩
            · skip
              have h_51p := of_decide_eq_false h_51
              refine q_no (gft h_51) ?_
              refine q_no (gft h_51) ?_
              refine q_no (gft h_51) ?_
              refine l_no (gft h_51) ?_
              refine q_no (gft h_51) ?_
              refine q_no (gft h_51) ?_
              refine q_no rfl ?_
              refine q_no rfl ?_
              refine q_no rfl ?_
              refine l_no rfl ?_
              refine q_no rfl ?_
              refine q_no (gft h_51) ?_
              refine q_pick_bf (v := .bool false) rfl rfl h_51 rfl ?_
              refine q_pick_f (v := .bool false) rfl rfl rfl ?_
              refine q_move (v := .bool false) rfl rfl ?_
              refine q_move (v := .int .i64 (r_34 + 1)) rfl rfl ?_
              refine q_eql rfl rfl rfl ?_
              refine q_move (v := .bool (decide (r_34 + 1 = 4))) rfl rfl ?_
              rcases bsplit (decide (r_34 + 1 = 4)) with h_55 | h_55
              · skip
                have h_55p := of_decide_eq_true h_55
                refine q_move (v := .slice (some ⟨k_8, 0, none⟩) 4 4) (gtt h_55) rfl ?_
                refine q_move (v := .int .i64 r_15) (gtt h_55) rfl ?_
                refine q_indexAddr (gtt h_55) rfl rfl el22 (by omega) (by omega) ?_
                refine l_load trivial (gtt h_55) rfl pl3 (Blk.cellI c_37 hy9) ?_
                refine q_eql (gtt h_55) rfl rfl ?_
                refine q_pick_bt (v := .bool (decide (y9 = 3))) rfl rfl h_55 rfl ?_
                refine q_pick_f (v := .bool (decide (y9 = 3))) rfl rfl rfl ?_
                refine q_assign (v := .bool (decide (y9 = 3))) rfl rfl ?_
                refine done ?_
                refine thenN ?_
                exact ⟨_, ⟨rfl, Evo.refl _ _⟩, Env.near_at 50 (by kernel_rfl) (by kernel_rfl) ⟨(Eq.trans (b := .bool (decide (y9 = 3))) (by kernel_rfl) (congrArg _ (by rw [h_55p]; simp [nextOk]))), trivial⟩⟩
              · skip
                have h_55p := of_decide_eq_false h_55
                exfalso; omega
      · rintro _ u_40 w10 ⟨rfl, s10⟩
        have e0_10 : Evo M w w10 := e0_9.trans s10.no
        have ev_10 : Evo (Plus (Plus M bmn_4) k_8) w4 w10 := ev_9.trans s10.no
        have e6_10 : Evo (Plus (Plus M bmn_4) k_8) w6 w10 := e6_9.trans s10.no
        have e7_10 : Evo (Plus (Plus (Plus M bmn_4) k_8) k_27) w7 w10 := e7_9.trans s10.no
        have z10 : Evo No w w10 := z9.trans s10.no
        have c_56 := c_37.no s10
        have c_57 := c_38.no s10
        have V_58 := V_39.no s10
        refine seq ?_
        refine region [true, true, false, true, false, true] ?_
        refine q_move (v := .pointer (some ⟨bvn_4, 0, none⟩)) rfl rfl ?_
        refine q_move (v := .int .i64 (r_34 + 1)) rfl rfl ?_
        refine l_loadBN ([.int .i64 r_15, .int .i64 (30 - (5 * r_15)), .int .i64 (30 - (5 * r_15) + 5), .int .i64 0, .slice eam_22 enm_22 ecm_22, .slice oam_22 onm_22 ocm_22]) trivial rfl rfl ag31 rfl c_57 rfl ?_
        refine q_build (.agg (List.toArray [.int .i64 (r_34 + 1), .int .i64 r_15, .int .i64 (30 - (5 * r_15)), .int .i64 (30 - (5 * r_15) + 5), .int .i64 0, .slice eam_22 enm_22 ecm_22, .slice oam_22 onm_22 ocm_22])) rfl rfl (fun _ => by kernel_rfl) ?_
        refine l_call Keep.any rfl (vApply_c (M := (Plus (Plus (Plus M bmn_4) k_8) k_27)) w10 (ok_27.on e7_10) bl (At.up (N := (Plus (Plus (Plus M bmn_4) k_8) k_27)) hG e0_10 (fun x0 h1 h0 => by rcases h0 with (((h0 | h0) | h0) | h0) <;> first | exact h0 | omega)) bvn_4 bmn_4 l V_58 (r_34 + 1) (oneM r_15 (30 - (5 * r_15))) _ _ _ _ _ _ (At.up (N := (Plus (Plus (Plus M bmn_4) k_8) k_27)) hem_22 e6_10 (fun x0 h1 h0 => by rcases h0 with (h0 | h0) <;> first | exact h0 | omega)) (At.up (N := (Plus (Plus (Plus M bmn_4) k_8) k_27)) hom_22 e6_10 (fun x0 h1 h0 => by rcases h0 with (h0 | h0) <;> first | exact h0 | omega)) eNm_22 oNm_22) en11 rfl rfl (fun v_60 w11 s11 q_61 => ?_)
        have e0_11 : Evo M w w11 := e0_10.fresh s11 lbmn_4_0
        have ev_11 : Evo (Plus (Plus M bmn_4) k_8) w4 w11 := ev_10.fstep s11 (inX (Plus.old Plus.in))
        have e6_11 : Evo (Plus (Plus M bmn_4) k_8) w6 w11 := e6_10.fstep s11 (inX (Plus.old Plus.in))
        have e7_11 : Evo (Plus (Plus (Plus M bmn_4) k_8) k_27) w7 w11 := e7_10.fstep s11 (inX (Plus.old (Plus.old Plus.in)))
        have z11 : Evo No w w11 := z10.fresh s11 lbmn_4_w
        have c_62 := c_56.on s11 (by first | omega | (intro h0; subst h0; omega))
        have c_63 := c_57.on s11 (by first | omega | (intro h0; subst h0; omega))
        obtain ⟨E_59, V_65⟩ := q_61
        refine q_assign (v := v_60) rfl rfl ?_
        refine done ?_
        refine thenN ?_
        refine seq ?_
        refine seq ?_
        refine region [true, true, true, true] ?_
        refine q_move (v := v_60) rfl rfl ?_
        rcases ErIs.cases E_59.here with ⟨h_66, rfl⟩ | ⟨h_66, t_67, u_68, rfl⟩
        · skip
          have hk : nextOk y9 (r_34 + 1) = true := by cases hq : nextOk y9 (r_34 + 1) with | true => rfl | false => exact absurd h_66 (I9.stayI (by omega) (by omega) (by omega) (by omega) hy9 hq).1
          have hI := (I9.goI (by omega) (by omega) (by omega) (by omega) hy9 hk).2
          refine q_nilEql rfl rfl if34 ?_
          refine q_move (v := .bool (nextOk y9 (r_34 + 1))) rfl rfl ?_
          refine q_boolNeq rfl rfl rfl bo4 ?_
          refine done ?_
          refine thenN ?_
          refine cond_bf rfl (notF (decide_eq_true hk.symm)) ?_
          refine wp_skip ?_
          refine thenN ?_
          refine seq ?_
          refine seq ?_
          refine region [true] ?_
          refine q_move (v := .bool (nextOk y9 (r_34 + 1))) rfl rfl ?_
          refine done ?_
          refine thenN ?_
          refine cond_bt rfl hk ?_
          refine region [true, true, true, true, false] ?_
          refine q_move (v := .slice (some ⟨k_8, 0, none⟩) 4 4) rfl rfl ?_
          refine q_move (v := .int .i64 r_15) rfl rfl ?_
          refine q_move (v := .int .i64 (r_34 + 1)) rfl rfl ?_
          refine q_indexAddr rfl rfl rfl el22 (by omega) (by omega) ?_
          refine l_storeI Keep.any rfl rfl c_62 rfl sz3 (by omega) (fun w12 s12 c_69 => ?_)
          have e0_12 : Evo M w w12 := e0_11.fresh s12 lk_8_0
          have ev_12 : Evo (Plus (Plus M bmn_4) k_8) w4 w12 := ev_11.fstep s12 (inX Plus.in)
          have e6_12 : Evo (Plus (Plus M bmn_4) k_8) w6 w12 := e6_11.fstep s12 (inX Plus.in)
          have e7_12 : Evo (Plus (Plus (Plus M bmn_4) k_8) k_27) w7 w12 := e7_11.fstep s12 (inX (Plus.old Plus.in))
          have e11_12 : Evo (Plus (Plus (Plus M bmn_4) k_8) k_27) w11 w12 := (Evo.refl (Plus (Plus (Plus M bmn_4) k_8) k_27) _).fstep s12 (inX (Plus.old Plus.in))
          have z12 : Evo No w w12 := z11.fresh s12 lk_8_w
          have c_70 := c_63.on s12 (by first | omega | (intro h0; subst h0; omega))
          have V_71 := V_65.on s12 (by omega) (inX (Plus.old Plus.in))
          refine done ?_
          refine thenN ?_
          refine seq ?_
          refine region [true] ?_
          refine q_assign (v := .int .i64 0) rfl rfl ?_
          refine done ?_
          refine thenN ?_
          refine seq ?_
          refine seq ?_
          refine region [true] ?_
          refine q_assign (v := .int .i64 0) rfl rfl ?_
          refine done ?_
          refine thenN ?_
          refine blk ?_
          have hxs := hI.len
          have y_72 := (At.up (N := (Plus (Plus (Plus M bmn_4) k_8) k_27)) hem_22 e6_12 (fun x0 h1 h0 => by rcases h0 with (h0 | h0) <;> first | exact h0 | omega))
          have y_73 := (At.up (N := (Plus (Plus (Plus M bmn_4) k_8) k_27)) hom_22 e6_12 (fun x0 h1 h0 => by rcases h0 with (h0 | h0) <;> first | exact h0 | omega))
          refine loopN [117, 118, 121, 122, 123, 124, 125, 126, 127, 128, 129, 130, 131, 132, 133, 134, 135, 136, 137, 138, 139, 140, 141, 142, 143, 144, 145, 146, 147, 148, 149, 150, 151, 152, 153, 154, 2, 155, 156, 157, 158, 159, 160, 161, 12, 119, 120, 13] (fun k9 R9 wJ => ∃ (j : Nat), ∃ (n : Nat), R9 = [(13, .int .i64 (j : Int)), (12, .int .i64 (n : Int))] ∧ (j ≤ 4) ∧ (n ≤ j) ∧ (n = ((ss.set (r_15).toNat (r_34 + 1)).take j).countP (fun s => decide (s = 2))) ∧ (Vw (Plus (Plus (Plus M bmn_4) k_8) k_27) bvn_4 bmn_4 (applyV l (r_34 + 1) (oneM r_15 (30 - (5 * r_15)))) wJ) ∧ (Evo No w12 wJ) ∧ (Evo No w wJ) ∧ (Blk k_8 (bk .i64 (ss.set (r_15).toNat (r_34 + 1))) 3 wJ) ∧ (Blk k_27 [.int .i64 r_15, .int .i64 (30 - (5 * r_15)), .int .i64 (30 - (5 * r_15) + 5), .int .i64 0, .slice eam_22 enm_22 ecm_22, .slice oam_22 onm_22 ocm_22] 31 wJ) ∧ k9 = 4 - j) ⟨_, _, ⟨0, 0, rfl, Nat.zero_le _, Nat.le_refl _, (by simp), V_71, Evo.refl _ _, z12, c_69, c_70, rfl⟩, ⟨(by kernel_rfl), (by kernel_rfl), trivial⟩⟩ (fun k9 R9 u_74 w13 J_75 => ?_)
          obtain ⟨j, n, rfl, hj, hnb, hn9, V8, x9j, z9j, m9j_k_8, m9j_k_27, rfl⟩ := J_75
          have e0_13 : Evo M w w13 := e0_12.trans x9j.no
          have ev_13 : Evo (Plus (Plus M bmn_4) k_8) w4 w13 := ev_12.trans x9j.no
          have e6_13 : Evo (Plus (Plus M bmn_4) k_8) w6 w13 := e6_12.trans x9j.no
          have e7_13 : Evo (Plus (Plus (Plus M bmn_4) k_8) k_27) w7 w13 := e7_12.trans x9j.no
          have e11_13 : Evo (Plus (Plus (Plus M bmn_4) k_8) k_27) w11 w13 := e11_12.trans x9j.no
          have exj_13 : Evo (Plus (Plus (Plus M bmn_4) k_8) k_27) w12 w13 := x9j.no
          have enj_13 : Evo No w12 w13 := x9j
          have hxj := hI.len
          refine seq ?_
          refine seq ?_
          refine region [true, true] ?_
          refine q_move (v := .int .i64 (j : Int)) rfl rfl ?_
          refine q_lss rfl rfl rfl ?_
          refine done ?_
          refine thenN ?_
          refine cond_b rfl (fun h_76 => ?_) (fun h_76 => ?_)
          · skip
            have h_76p := of_decide_eq_true h_76
            refine wp_skip ?_
            refine thenN ?_
            refine seq ?_
            refine blk ?_
            refine seq ?_
            refine seq ?_
            refine regionD No (.q 0 (.q 1 (.q 3 (.q 4 (.q 5 (.q 6 (.l 2 (.q 7 (.q 8 (.q 9 (.q 10 (.q 11 (.q 12 (.q 13 (.q 20 (.q 21 (.q 22 (.q 23 (.q 24 (.l 14 (.q 15 (.q 16 (.q 17 (.l 18 (.l 19 (.q 25 (.q 26 (.q 27 (.q 28 (.q 29 (.q 30 (.q 31 (.q 32 (.q 33 (.nil))))))))))))))))))))))))))))))))))) mixed (by kernel_rfl) (by kernel_rfl) (by kernel_rfl) (fun w14 s14 => ?_)
            have e0_14 : Evo M w w14 := e0_13.trans s14.no
            have ev_14 : Evo (Plus (Plus M bmn_4) k_8) w4 w14 := ev_13.trans s14.no
            have e6_14 : Evo (Plus (Plus M bmn_4) k_8) w6 w14 := e6_13.trans s14.no
            have e7_14 : Evo (Plus (Plus (Plus M bmn_4) k_8) k_27) w7 w14 := e7_13.trans s14.no
            have e11_14 : Evo (Plus (Plus (Plus M bmn_4) k_8) k_27) w11 w14 := e11_13.trans s14.no
            have exj_14 : Evo (Plus (Plus (Plus M bmn_4) k_8) k_27) w12 w14 := exj_13.trans s14.no
            have enj_14 : Evo No w12 w14 := enj_13.trans s14.no
            have z14 : Evo No w w14 := z9j.trans s14.no
            have c_77 := m9j_k_8.no s14
            have c_78 := m9j_k_27.no s14
            have V_79 := V8.no s14
            have rgr_80_14 : Evo No w13 w14 := s14.no
            refine q_move (v := .pointer (some ⟨bvn_4, 0, none⟩)) rfl rfl ?_
            refine q_move (v := .int .i64 (j : Int)) rfl rfl ?_
            refine q_move (v := .slice (some ⟨k_8, 0, none⟩) 4 4) rfl rfl ?_
            refine q_move (v := .int .i64 (j : Int)) rfl rfl ?_
            obtain ⟨y_81, hy_81⟩ := get_lt (xs := (ss.set (r_15).toNat (r_34 + 1))) (i := ((j : Int)).toNat) (by omega)
            refine q_indexAddr rfl rfl rfl el22 (by omega) (by omega) ?_
            refine q_load rfl rfl pl3 (fun w0 e0 => Blk.cellI ((fun _ e => m9j_k_8.no e) w0 e0) hy_81) ?_
            have hst : stateOf (applyV l (r_34 + 1) (oneM r_15 (30 - (5 * r_15)))) (j : Int) = y_81 := hI.state (k := j) (by omega) hy_81
            refine l_call (Keep.evo rgr_80_14 noX) rfl (vState_c (M := (Plus (Plus (Plus M bmn_4) k_8) k_27)) w14 (ok_27.on e7_14) bvn_4 bmn_4 (applyV l (r_34 + 1) (oneM r_15 (30 - (5 * r_15)))) V_79 (j : Int)) en14 rfl rfl (fun v_82 w15 s15 q_83 => ?_)
            have e0_15 : Evo M w w15 := e0_14.trans s15.no
            have ev_15 : Evo (Plus (Plus M bmn_4) k_8) w4 w15 := ev_14.trans s15.no
            have e6_15 : Evo (Plus (Plus M bmn_4) k_8) w6 w15 := e6_14.trans s15.no
            have e7_15 : Evo (Plus (Plus (Plus M bmn_4) k_8) k_27) w7 w15 := e7_14.trans s15.no
            have e11_15 : Evo (Plus (Plus (Plus M bmn_4) k_8) k_27) w11 w15 := e11_14.trans s15.no
            have exj_15 : Evo (Plus (Plus (Plus M bmn_4) k_8) k_27) w12 w15 := exj_14.trans s15.no
            have enj_15 : Evo No w12 w15 := enj_14.trans s15.no
            have z15 : Evo No w w15 := z14.trans s15.no
            have c_84 := c_77.no s15
            have c_85 := c_78.no s15
            have V_86 := V_79.no s15
            have rgr_80_15 : Evo No w13 w15 := rgr_80_14.trans s15.no
            obtain rfl := q_83
            refine q_neq rfl rfl rfl ?_
            refine q_move (v := .bool (!(decide (stateOf (applyV l (r_34 + 1) (oneM r_15 (30 - (5 * r_15)))) (j : Int) = y_81)))) rfl rfl ?_
            refine q_move (v := .pointer (some ⟨bvn_4, 0, none⟩)) (gff (notF (decide_eq_true hst))) rfl ?_
            refine q_move (v := .int .i64 (j : Int)) (gff (notF (decide_eq_true hst))) rfl ?_
            refine q_move (v := .int .i64 (j : Int)) (gff (notF (decide_eq_true hst))) rfl ?_
            refine q_mul (gff (notF (decide_eq_true hst))) rfl rfl (wi64 (by omega) (by omega)) ?_
            refine q_sub (gff (notF (decide_eq_true hst))) rfl rfl (wi64 (by omega) (by omega)) ?_
            refine q_move (v := .slice (some ⟨k_8, 0, none⟩) 4 4) (gff (notF (decide_eq_true hst))) rfl ?_
            refine q_move (v := .int .i64 (j : Int)) (gff (notF (decide_eq_true hst))) rfl ?_
            refine q_indexAddr (gff (notF (decide_eq_true hst))) rfl rfl el22 (by omega) (by omega) ?_
            refine q_load (gff (notF (decide_eq_true hst))) rfl pl3 (fun w0 e0 => Blk.cellI ((fun _ e => m9j_k_8.no e) w0 e0) hy_81) ?_
            refine q_eql (gff (notF (decide_eq_true hst))) rfl rfl ?_
            refine l_call (Keep.evo rgr_80_15 noX) (gff (notF (decide_eq_true hst))) (one_c (M := (Plus (Plus (Plus M bmn_4) k_8) k_27)) w15 (ok_27.on e7_15) (j : Int) (30 - (5 * (j : Int))) (by omega) (by omega) (by omega) (by omega)) en10 rfl rfl (fun v_90 w16 s16 q_91 => ?_)
            have e0_16 : Evo M w w16 := e0_15.trans s16.no
            have ev_16 : Evo (Plus (Plus M bmn_4) k_8) w4 w16 := ev_15.trans s16.no
            have e6_16 : Evo (Plus (Plus M bmn_4) k_8) w6 w16 := e6_15.trans s16.no
            have e7_16 : Evo (Plus (Plus (Plus M bmn_4) k_8) k_27) w7 w16 := e7_15.trans s16.no
            have e11_16 : Evo (Plus (Plus (Plus M bmn_4) k_8) k_27) w11 w16 := e11_15.trans s16.no
            have exj_16 : Evo (Plus (Plus (Plus M bmn_4) k_8) k_27) w12 w16 := exj_15.trans s16.no
            have enj_16 : Evo No w12 w16 := enj_15.trans s16.no
            have z16 : Evo No w w16 := z15.trans s16.no
            have c_92 := c_84.no s16
            have c_93 := c_85.no s16
            have V_94 := V_86.no s16
            have rgr_80_16 : Evo No w13 w16 := rgr_80_15.trans s16.no
            obtain ⟨cs_87, rfl, hC_88⟩ := q_91
            obtain ⟨eam_89, enm_89, ecm_89, oam_89, onm_89, ocm_89, rfl, eNm_89, oNm_89, hem_89, hom_89⟩ := Mrd.open hC_88
            have olm_89 : onm_89 = 2 := hom_89.here.len
            refine q_field (v := .slice oam_89 onm_89 ocm_89) (gff (notF (decide_eq_true hst))) rfl fp31_5 rfl ?_
            obtain ⟨x_95, hx_95⟩ := Sl.get (xs := (oneM (j : Int) (30 - (5 * (j : Int)))).objects) hom_89.here (i := 1) (by omega) (by omega)
            have Ax_95 := Sl.areaAt hom_89 (Sl.map_get hx_95)
            refine q_indexS' (gff (notF (decide_eq_true hst))) rfl rfl el29 (hom_89.here.there (by omega)).1 (by omega) (by omega) ?_
            have hnx_95 := lv_obj hx_95
            refine q_fieldAddr (gff (notF (decide_eq_true hst))) rfl fl46_0 ?_
            refine l_load rgr_80_16 (gff (notF (decide_eq_true hst))) rfl pl9 ((Ax_95.now (Evo.refl (Plus (Plus (Plus M bmn_4) k_8) k_27) _)) 0 _ rfl) ?_
            have hrf : refersOf (applyV l (r_34 + 1) (oneM r_15 (30 - (5 * r_15)))) x_95.name = (decide (y_81 = 1) || decide (y_81 = 2)) := by rw [hnx_95]; exact hI.refers (k := j) (by omega) hy_81
            refine l_call (Keep.evo rgr_80_16 noX) (gff (notF (decide_eq_true hst))) (vRefers_c (M := (Plus (Plus (Plus M bmn_4) k_8) k_27)) w16 (ok_27.on e7_16) bvn_4 bmn_4 (applyV l (r_34 + 1) (oneM r_15 (30 - (5 * r_15)))) V_94 x_95.name) en15 rfl rfl (fun v_96 w17 s17 q_97 => ?_)
            have e0_17 : Evo M w w17 := e0_16.trans s17.no
            have ev_17 : Evo (Plus (Plus M bmn_4) k_8) w4 w17 := ev_16.trans s17.no
            have e6_17 : Evo (Plus (Plus M bmn_4) k_8) w6 w17 := e6_16.trans s17.no
            have e7_17 : Evo (Plus (Plus (Plus M bmn_4) k_8) k_27) w7 w17 := e7_16.trans s17.no
            have e11_17 : Evo (Plus (Plus (Plus M bmn_4) k_8) k_27) w11 w17 := e11_16.trans s17.no
            have exj_17 : Evo (Plus (Plus (Plus M bmn_4) k_8) k_27) w12 w17 := exj_16.trans s17.no
            have enj_17 : Evo No w12 w17 := enj_16.trans s17.no
            have e16_17 : Evo (Plus (Plus (Plus M bmn_4) k_8) k_27) w16 w17 := s17.no
            have z17 : Evo No w w17 := z16.trans s17.no
            have c_98 := c_92.no s17
            have c_99 := c_93.no s17
            have V_100 := V_94.no s17
            have rgr_80_17 : Evo No w13 w17 := rgr_80_16.trans s17.no
            obtain rfl := q_97
            refine q_move (v := .bool (decide (y_81 = 1))) (gff (notF (decide_eq_true hst))) rfl ?_
            rcases bsplit (decide (y_81 = 1)) with h_101 | h_101
            · skip
              have h_101p := of_decide_eq_true h_101
              refine q_no (gtf h_101) ?_
              refine q_no (gtf h_101) ?_
              refine q_no (gtf h_101) ?_
              refine q_no (gtf h_101) ?_
              refine q_no (gtf h_101) ?_
              refine q_pick_bt (v := .bool true) (gff (notF (decide_eq_true hst))) rfl h_101 rfl ?_
              refine q_boolNeq (gff (notF (decide_eq_true hst))) rfl rfl bo4 ?_
              refine q_pick_bf (v := .bool (!(decide ((refersOf (applyV l (r_34 + 1) (oneM r_15 (30 - (5 * r_15)))) x_95.name : Bool) = true)))) rfl rfl (notF (decide_eq_true hst)) rfl ?_
              refine done ?_
              refine thenN ?_
              refine cond_b rfl (fun h_102 => ?_) (fun h_102 => ?_)
              · skip
                have h_103 := unT h_102
                have h_103p := of_decide_eq_false h_103
                exact absurd (by rw [hrf]; simp [h_101]) (of_decide_eq_false h_103)
              · skip
                have h_104 := unF h_102
                have h_104p := of_decide_eq_true h_104
                refine wp_skip ?_
                refine thenN ?_
                refine seq ?_
                refine region [true, true, true, false, true] ?_
                refine q_move (v := .slice (some ⟨k_8, 0, none⟩) 4 4) rfl rfl ?_
                refine q_move (v := .int .i64 (j : Int)) rfl rfl ?_
                refine q_indexAddr rfl rfl rfl el22 (by omega) (by omega) ?_
                refine l_load trivial rfl rfl pl3 (Blk.cellI c_98 hy_81) ?_
                refine q_eql rfl rfl rfl ?_
                refine done ?_
                refine thenN ?_
                refine cond_b rfl (fun h_105 => ?_) (fun h_105 => ?_)
                · skip
                  have h_105p := of_decide_eq_true h_105
                  refine region [true, true, true] ?_
                  refine q_move (v := .int .i64 (n : Int)) rfl rfl ?_
                  refine q_add rfl rfl rfl (wi64 (by omega) (by omega)) ?_
                  refine q_assign (v := .int .i64 ((n : Int) + 1)) rfl rfl ?_
                  refine done ?_
                  refine blkN ?_
                  refine thenN ?_
                  refine region [true, true, true] ?_
                  refine q_move (v := .int .i64 (j : Int)) rfl rfl ?_
                  refine q_add rfl rfl rfl (wi64 (by omega) (by omega)) ?_
                  refine q_assign (v := .int .i64 ((j : Int) + 1)) rfl rfl ?_
                  refine done ?_
                  refine thenN ?_
                  have hcn := cnt_snoc (j := j) hy_81; rw [if_pos (of_decide_eq_true h_105)] at hcn
                  refine ⟨_, _, ?_, ⟨j + 1, n + 1, rfl, by omega, by omega, by omega, V_100, enj_17, z17, c_98, c_99, rfl⟩, Env.near_at 97 (by kernel_rfl) (by kernel_rfl) ⟨(Eq.trans (b := Go.Value.int .i64 ((j : Int) + 1)) (by kernel_rfl) (nextI j)), (Eq.trans (b := Go.Value.int .i64 ((n : Int) + 1)) (by kernel_rfl) (nextI n)), trivial⟩⟩
                  omega
                · skip
                  have h_105p := of_decide_eq_false h_105
                  refine wp_skip ?_
                  refine blkN ?_
                  refine thenN ?_
                  refine region [true, true, true] ?_
                  refine q_move (v := .int .i64 (j : Int)) rfl rfl ?_
                  refine q_add rfl rfl rfl (wi64 (by omega) (by omega)) ?_
                  refine q_assign (v := .int .i64 ((j : Int) + 1)) rfl rfl ?_
                  refine done ?_
                  refine thenN ?_
                  have hcn := cnt_snoc (j := j) hy_81; rw [if_neg (of_decide_eq_false h_105)] at hcn
                  refine ⟨_, _, ?_, ⟨j + 1, n, rfl, by omega, by omega, by omega, V_100, enj_17, z17, c_98, c_99, rfl⟩, Env.near_at 94 (by kernel_rfl) (by kernel_rfl) ⟨(Eq.trans (b := Go.Value.int .i64 ((j : Int) + 1)) (by kernel_rfl) (nextI j)), (by kernel_rfl), trivial⟩⟩
                  omega
            · skip
              have h_101p := of_decide_eq_false h_101
              refine q_move (v := .slice (some ⟨k_8, 0, none⟩) 4 4) (gff h_101) rfl ?_
              refine q_move (v := .int .i64 (j : Int)) (gff h_101) rfl ?_
              refine q_indexAddr (gff h_101) rfl rfl el22 (by omega) (by omega) ?_
              refine q_load (gff h_101) rfl pl3 (fun w0 e0 => Blk.cellI ((fun _ e => m9j_k_8.no e) w0 e0) hy_81) ?_
              refine q_eql (gff h_101) rfl rfl ?_
              refine q_pick_bf (v := .bool (decide (y_81 = 2))) (gff (notF (decide_eq_true hst))) rfl h_101 rfl ?_
              refine q_boolNeq (gff (notF (decide_eq_true hst))) rfl rfl bo4 ?_
              refine q_pick_bf (v := .bool (!(decide ((refersOf (applyV l (r_34 + 1) (oneM r_15 (30 - (5 * r_15)))) x_95.name : Bool) = decide (y_81 = 2))))) rfl rfl (notF (decide_eq_true hst)) rfl ?_
              refine done ?_
              refine thenN ?_
              refine cond_b rfl (fun h_106 => ?_) (fun h_106 => ?_)
              · skip
                have h_107 := unT h_106
                have h_107p := of_decide_eq_false h_107
                exact absurd (by rw [hrf]; simp [h_101]) (of_decide_eq_false h_107)
              · skip
                have h_108 := unF h_106
                have h_108p := of_decide_eq_true h_108
                refine wp_skip ?_
                refine thenN ?_
                refine seq ?_
                refine region [true, true, true, false, true] ?_
                refine q_move (v := .slice (some ⟨k_8, 0, none⟩) 4 4) rfl rfl ?_
                refine q_move (v := .int .i64 (j : Int)) rfl rfl ?_
                refine q_indexAddr rfl rfl rfl el22 (by omega) (by omega) ?_
                refine l_load trivial rfl rfl pl3 (Blk.cellI c_98 hy_81) ?_
                refine q_eql rfl rfl rfl ?_
                refine done ?_
                refine thenN ?_
                refine cond_b rfl (fun h_109 => ?_) (fun h_109 => ?_)
                · skip
                  have h_109p := of_decide_eq_true h_109
                  refine region [true, true, true] ?_
                  refine q_move (v := .int .i64 (n : Int)) rfl rfl ?_
                  refine q_add rfl rfl rfl (wi64 (by omega) (by omega)) ?_
                  refine q_assign (v := .int .i64 ((n : Int) + 1)) rfl rfl ?_
                  refine done ?_
                  refine blkN ?_
                  refine thenN ?_
                  refine region [true, true, true] ?_
                  refine q_move (v := .int .i64 (j : Int)) rfl rfl ?_
                  refine q_add rfl rfl rfl (wi64 (by omega) (by omega)) ?_
                  refine q_assign (v := .int .i64 ((j : Int) + 1)) rfl rfl ?_
                  refine done ?_
                  refine thenN ?_
                  have hcn := cnt_snoc (j := j) hy_81; rw [if_pos (of_decide_eq_true h_109)] at hcn
                  refine ⟨_, _, ?_, ⟨j + 1, n + 1, rfl, by omega, by omega, by omega, V_100, enj_17, z17, c_98, c_99, rfl⟩, Env.near_at 97 (by kernel_rfl) (by kernel_rfl) ⟨(Eq.trans (b := Go.Value.int .i64 ((j : Int) + 1)) (by kernel_rfl) (nextI j)), (Eq.trans (b := Go.Value.int .i64 ((n : Int) + 1)) (by kernel_rfl) (nextI n)), trivial⟩⟩
                  omega
                · skip
                  have h_109p := of_decide_eq_false h_109
                  refine wp_skip ?_
                  refine blkN ?_
                  refine thenN ?_
                  refine region [true, true, true] ?_
                  refine q_move (v := .int .i64 (j : Int)) rfl rfl ?_
                  refine q_add rfl rfl rfl (wi64 (by omega) (by omega)) ?_
                  refine q_assign (v := .int .i64 ((j : Int) + 1)) rfl rfl ?_
                  refine done ?_
                  refine thenN ?_
                  have hcn := cnt_snoc (j := j) hy_81; rw [if_neg (of_decide_eq_false h_109)] at hcn
                  refine ⟨_, _, ?_, ⟨j + 1, n, rfl, by omega, by omega, by omega, V_100, enj_17, z17, c_98, c_99, rfl⟩, Env.near_at 94 (by kernel_rfl) (by kernel_rfl) ⟨(Eq.trans (b := Go.Value.int .i64 ((j : Int) + 1)) (by kernel_rfl) (nextI j)), (by kernel_rfl), trivial⟩⟩
                  omega
          · skip
            have h_76p := of_decide_eq_false h_76
            refine wp_exit ?_
            refine thenX ?_
            refine thenX ?_
            refine blkX ?_
            refine thenN ?_
            refine seq ?_
            refine region [true, false, false, true] ?_
            refine q_move (v := .pointer (some ⟨bvn_4, 0, none⟩)) rfl rfl ?_
            refine l_buildSlice (M := (Plus (Plus (Plus M bmn_4) k_8) k_27)) (e := 3) (cs := [.int .i64 2]) Keep.any (ok_27.on e7_13) rfl rfl (fun _ => by kernel_rfl) (fun k_110 w14 s14 fk_110 nk_110 => ?_)
            have e0_14 : Evo M w w14 := e0_13.trans s14.no
            have ev_14 : Evo (Plus (Plus M bmn_4) k_8) w4 w14 := ev_13.trans s14.no
            have e6_14 : Evo (Plus (Plus M bmn_4) k_8) w6 w14 := e6_13.trans s14.no
            have e7_14 : Evo (Plus (Plus (Plus M bmn_4) k_8) k_27) w7 w14 := e7_13.trans s14.no
            have e11_14 : Evo (Plus (Plus (Plus M bmn_4) k_8) k_27) w11 w14 := e11_13.trans s14.no
            have exj_14 : Evo (Plus (Plus (Plus M bmn_4) k_8) k_27) w12 w14 := exj_13.trans s14.no
            have enj_14 : Evo No w12 w14 := enj_13.trans s14.no
            have z14 : Evo No w w14 := z9j.trans s14.no
            have c_111 := m9j_k_8.no s14
            have c_112 := m9j_k_27.no s14
            have V_113 := V8.no s14
            have hPs := fk_110.imp fun w9 _ h9 => Sl.ofBlk (k := 1) (rows := [(2 : Int)].map encI) h9 rfl (by simp [encI]) rfl
            refine l_call Keep.any rfl (vIn_c (M := (Plus (Plus (Plus M bmn_4) k_8) k_27)) w14 (ok_27.on e7_14) bvn_4 bmn_4 (applyV l (r_34 + 1) (oneM r_15 (30 - (5 * r_15)))) V_113 (by have := hI.few; omega) [2] _ _ _ (hPs.on (Evo.refl (Plus (Plus (Plus M bmn_4) k_8) k_27) _)) (by simp)) en13 rfl rfl (fun v_115 w15 s15 q_116 => ?_)
            have e0_15 : Evo M w w15 := e0_14.trans s15.no
            have ev_15 : Evo (Plus (Plus M bmn_4) k_8) w4 w15 := ev_14.trans s15.no
            have e6_15 : Evo (Plus (Plus M bmn_4) k_8) w6 w15 := e6_14.trans s15.no
            have e7_15 : Evo (Plus (Plus (Plus M bmn_4) k_8) k_27) w7 w15 := e7_14.trans s15.no
            have e11_15 : Evo (Plus (Plus (Plus M bmn_4) k_8) k_27) w11 w15 := e11_14.trans s15.no
            have exj_15 : Evo (Plus (Plus (Plus M bmn_4) k_8) k_27) w12 w15 := exj_14.trans s15.no
            have enj_15 : Evo No w12 w15 := enj_14.trans s15.no
            have e14_15 : Evo (Plus (Plus (Plus M bmn_4) k_8) k_27) w14 w15 := s15.no
            have z15 : Evo No w w15 := z14.trans s15.no
            have c_117 := c_111.no s15
            have c_118 := c_112.no s15
            have V_119 := V_113.no s15
            obtain ⟨ai_114, ni_114, ci_114, zsi_114, rfl, hpi_114, hsi_114, hzi_114, hmi_114⟩ := q_116
            have hz9 := hI.sorted hpi_114 hsi_114
            have hzl := hzi_114.here.len; rw [List.length_map] at hzl
            have hz8 := hz9.1
            have hj4 : j = 4 := by omega
            subst hj4
            rw [List.take_of_length_le (by have := hI.len; omega)] at hn9
            refine q_assign (v := .slice ai_114 ni_114 ci_114) rfl rfl ?_
            refine done ?_
            refine thenN ?_
            refine seq ?_
            refine seq ?_
            refine region [true] ?_
            refine q_assign (v := .int .i64 1) rfl rfl ?_
            refine done ?_
            refine thenN ?_
            refine blk ?_
            have y_120 := (y_72.on exj_15)
            have y_121 := (y_73.on exj_15)
            have y_122 := (hzi_114.on (Evo.refl (Plus (Plus (Plus M bmn_4) k_8) k_27) _))
            have y_123 := (fk_110.on e14_15)
            refine loopN [165, 166, 167, 168, 171, 172, 173, 174, 175, 176, 177, 178, 179, 180, 181, 182, 2, 169, 170, 15] (fun k9 R9 wJ => ∃ (q : Nat), R9 = [(15, .int .i64 (q : Int))] ∧ (1 ≤ q) ∧ (q ≤ ni_114 + 1) ∧ (Vw (Plus (Plus (Plus M bmn_4) k_8) k_27) bvn_4 bmn_4 (applyV l (r_34 + 1) (oneM r_15 (30 - (5 * r_15)))) wJ) ∧ (Evo No w15 wJ) ∧ (Evo No w wJ) ∧ (Blk k_8 (bk .i64 (ss.set (r_15).toNat (r_34 + 1))) 3 wJ) ∧ (Blk k_27 [.int .i64 r_15, .int .i64 (30 - (5 * r_15)), .int .i64 (30 - (5 * r_15) + 5), .int .i64 0, .slice eam_22 enm_22 ecm_22, .slice oam_22 onm_22 ocm_22] 31 wJ) ∧ k9 = ni_114 + 1 - q) ⟨_, _, ⟨1, rfl, Nat.le_refl _, by omega, V_119, Evo.refl _ _, z15, c_117, c_118, rfl⟩, ⟨(by kernel_rfl), trivial⟩⟩ (fun k9 R9 u_124 w16 J_125 => ?_)
            obtain ⟨q, rfl, hq0, hq1, V7, x9q, z9q, m9q_k_8, m9q_k_27, rfl⟩ := J_125
            have e0_16 : Evo M w w16 := e0_15.trans x9q.no
            have ev_16 : Evo (Plus (Plus M bmn_4) k_8) w4 w16 := ev_15.trans x9q.no
            have e6_16 : Evo (Plus (Plus M bmn_4) k_8) w6 w16 := e6_15.trans x9q.no
            have e7_16 : Evo (Plus (Plus (Plus M bmn_4) k_8) k_27) w7 w16 := e7_15.trans x9q.no
            have e11_16 : Evo (Plus (Plus (Plus M bmn_4) k_8) k_27) w11 w16 := e11_15.trans x9q.no
            have exj_16 : Evo (Plus (Plus (Plus M bmn_4) k_8) k_27) w12 w16 := exj_15.trans x9q.no
            have enj_16 : Evo No w12 w16 := enj_15.trans x9q.no
            have e14_16 : Evo (Plus (Plus (Plus M bmn_4) k_8) k_27) w14 w16 := e14_15.trans x9q.no
            have e15_16 : Evo (Plus (Plus (Plus M bmn_4) k_8) k_27) w15 w16 := x9q.no
            have exq_16 : Evo (Plus (Plus (Plus M bmn_4) k_8) k_27) w15 w16 := x9q.no
            have enq_16 : Evo No w15 w16 := x9q
            refine seq ?_
            refine seq ?_
            refine region [true, true, true, true] ?_
            refine q_move (v := .int .i64 (q : Int)) rfl rfl ?_
            refine q_move (v := .slice ai_114 ni_114 ci_114) rfl rfl ?_
            refine q_len rfl rfl el39 ?_
            refine q_lss rfl rfl rfl ?_
            refine done ?_
            refine thenN ?_
            refine cond_b rfl (fun h_126 => ?_) (fun h_126 => ?_)
            · skip
              have h_126p := of_decide_eq_true h_126
              refine wp_skip ?_
              refine thenN ?_
              refine seq ?_
              refine blk ?_
              refine seq ?_
              refine regionD No (.q 0 (.q 1 (.q 2 (.q 3 (.q 4 (.q 5 (.q 6 (.q 7 (.q 8 (.q 9 (.q 10 (.q 11 (.nil))))))))))))) mixed (by kernel_rfl) (by kernel_rfl) (by kernel_rfl) (fun w17 s17 => ?_)
              have e0_17 : Evo M w w17 := e0_16.trans s17.no
              have ev_17 : Evo (Plus (Plus M bmn_4) k_8) w4 w17 := ev_16.trans s17.no
              have e6_17 : Evo (Plus (Plus M bmn_4) k_8) w6 w17 := e6_16.trans s17.no
              have e7_17 : Evo (Plus (Plus (Plus M bmn_4) k_8) k_27) w7 w17 := e7_16.trans s17.no
              have e11_17 : Evo (Plus (Plus (Plus M bmn_4) k_8) k_27) w11 w17 := e11_16.trans s17.no
              have exj_17 : Evo (Plus (Plus (Plus M bmn_4) k_8) k_27) w12 w17 := exj_16.trans s17.no
              have enj_17 : Evo No w12 w17 := enj_16.trans s17.no
              have e14_17 : Evo (Plus (Plus (Plus M bmn_4) k_8) k_27) w14 w17 := e14_16.trans s17.no
              have e15_17 : Evo (Plus (Plus (Plus M bmn_4) k_8) k_27) w15 w17 := e15_16.trans s17.no
              have exq_17 : Evo (Plus (Plus (Plus M bmn_4) k_8) k_27) w15 w17 := exq_16.trans s17.no
              have enq_17 : Evo No w15 w17 := enq_16.trans s17.no
              have z17 : Evo No w w17 := z9q.trans s17.no
              have c_127 := m9q_k_8.no s17
              have c_128 := m9q_k_27.no s17
              have V_129 := V7.no s17
              have rgr_130_17 : Evo No w16 w17 := s17.no
              refine q_move (v := .slice ai_114 ni_114 ci_114) rfl rfl ?_
              refine q_move (v := .int .i64 (q : Int)) rfl rfl ?_
              obtain ⟨x_131, hx_131⟩ := Sl.get (xs := zsi_114) y_122.here (i := (q : Int)) (by omega) (by omega)
              have Ax_131 := Sl.areaAt y_122 (Sl.map_get hx_131)
              refine q_indexS' rfl rfl rfl el39 (y_122.here.there (by omega)).1 (by omega) (by omega) ?_
              refine q_fieldAddr rfl rfl fl31_1 ?_
              refine q_load rfl rfl pl2 (fun w0 e0 => (Ax_131.via exq_16 noX) w0 e0 1 _ rfl) ?_
              refine q_move (v := .slice ai_114 ni_114 ci_114) rfl rfl ?_
              refine q_move (v := .int .i64 (q : Int)) rfl rfl ?_
              refine q_sub rfl rfl rfl (wi64 (by omega) (by omega)) ?_
              obtain ⟨x_132, hx_132⟩ := Sl.get (xs := zsi_114) y_122.here (i := (q : Int) - 1) (by omega) (by omega)
              have Ax_132 := Sl.areaAt y_122 (Sl.map_get hx_132)
              refine q_indexS' rfl rfl rfl el39 (y_122.here.there (by omega)).1 (by omega) (by omega) ?_
              refine q_fieldAddr rfl rfl fl31_1 ?_
              refine q_load rfl rfl pl2 (fun w0 e0 => (Ax_132.via exq_16 noX) w0 e0 1 _ rfl) ?_
              refine q_leq rfl rfl rfl ?_
              refine done ?_
              refine thenN ?_
              refine cond_b rfl (fun h_133 => ?_) (fun h_133 => ?_)
              · skip
                have h_133p := of_decide_eq_true h_133
                have hq := pair_at hz9.2 (i := q - 1) (j := q) (by omega) (by rw [← show ((q : Int) - 1).toNat = q - 1 from by omega]; exact hx_132) hx_131
                exact absurd (of_decide_eq_true h_133) (by omega)
              · skip
                have h_133p := of_decide_eq_false h_133
                refine wp_skip ?_
                refine blkN ?_
                refine thenN ?_
                refine region [true, true, true] ?_
                refine q_move (v := .int .i64 (q : Int)) rfl rfl ?_
                refine q_add rfl rfl rfl (wi64 (by omega) (by omega)) ?_
                refine q_assign (v := .int .i64 ((q : Int) + 1)) rfl rfl ?_
                refine done ?_
                refine thenN ?_
                refine ⟨_, _, ?_, ⟨q + 1, rfl, by omega, by omega, V_129, enq_17, z17, c_127, c_128, rfl⟩, Env.near_at 40 (by kernel_rfl) (by kernel_rfl) ⟨(Eq.trans (b := Go.Value.int .i64 ((q : Int) + 1)) (by kernel_rfl) (nextI q)), trivial⟩⟩
                omega
            · skip
              have h_126p := of_decide_eq_false h_126
              refine wp_exit ?_
              refine thenX ?_
              refine thenX ?_
              refine blkX ?_
              refine thenN ?_
              refine seq ?_
              refine region [true, true, true, true] ?_
              refine q_move (v := .slice ai_114 ni_114 ci_114) rfl rfl ?_
              refine q_len rfl rfl el39 ?_
              refine q_move (v := .int .i64 (n : Int)) rfl rfl ?_
              refine q_neq rfl rfl rfl ?_
              refine done ?_
              refine thenN ?_
              refine cond_b rfl (fun h_134 => ?_) (fun h_134 => ?_)
              · skip
                have h_135 := unT h_134
                have h_135p := of_decide_eq_false h_135
                exact absurd (by omega) (of_decide_eq_false h_135)
              · skip
                have h_136 := unF h_134
                have h_136p := of_decide_eq_true h_136
                refine wp_skip ?_
                refine blkN ?_
                refine thenN ?_
                refine region [true, true, true] ?_
                refine q_move (v := .int .i64 (i : Int)) rfl rfl ?_
                refine q_add rfl rfl rfl (wi64 (by omega) (by omega)) ?_
                refine q_assign (v := .int .i64 ((i : Int) + 1)) rfl rfl ?_
                refine done ?_
                refine thenN ?_
                refine ⟨_, _, ?_, ⟨i + 1, (applyV l (r_34 + 1) (oneM r_15 (30 - (5 * r_15)))), (ss.set (r_15).toNat (r_34 + 1)), rfl, by omega, (V7.to (fun x hx => .inl (hx)) (Plus.old Plus.in)), (oM9.on ev_16), hI, m9q_k_8, z9q, rfl⟩, Env.near_at 349 (by kernel_rfl) (by kernel_rfl) ⟨(Eq.trans (b := Go.Value.int .i64 ((i : Int) + 1)) (by kernel_rfl) (nextI i)), trivial⟩⟩
                omega
        · skip
          have hk : nextOk y9 (r_34 + 1) = false := by cases hq : nextOk y9 (r_34 + 1) with | true => exact absurd (I9.goI (by omega) (by omega) (by omega) (by omega) hy9 hq).1 h_66 | false => rfl
          have hI := I9; rw [← (I9.stayI (by omega) (by omega) (by omega) (by omega) hy9 hk).2] at hI
          refine q_ifEql rfl rfl if34 ?_
          refine q_move (v := .bool (nextOk y9 (r_34 + 1))) rfl rfl ?_
          refine q_boolNeq rfl rfl rfl bo4 ?_
          refine done ?_
          refine thenN ?_
          refine cond_bf rfl (notF (decide_eq_true hk.symm)) ?_
          refine wp_skip ?_
          refine thenN ?_
          refine seq ?_
          refine seq ?_
          refine region [true] ?_
          refine q_move (v := .bool (nextOk y9 (r_34 + 1))) rfl rfl ?_
          refine done ?_
          refine thenN ?_
          refine cond_bf rfl hk ?_
          refine wp_skip ?_
          refine thenN ?_
          refine seq ?_
          refine region [true] ?_
          refine q_assign (v := .int .i64 0) rfl rfl ?_
          refine done ?_
          refine thenN ?_
          refine seq ?_
          refine seq ?_
          refine region [true] ?_
          refine q_assign (v := .int .i64 0) rfl rfl ?_
          refine done ?_
          refine thenN ?_
          refine blk ?_
          have hxs := hI.len
          have y_137 := (At.up (N := (Plus (Plus (Plus M bmn_4) k_8) k_27)) hem_22 e6_11 (fun x0 h1 h0 => by rcases h0 with (h0 | h0) <;> first | exact h0 | omega))
          have y_138 := (At.up (N := (Plus (Plus (Plus M bmn_4) k_8) k_27)) hom_22 e6_11 (fun x0 h1 h0 => by rcases h0 with (h0 | h0) <;> first | exact h0 | omega))
          refine loopN [117, 118, 121, 122, 123, 124, 125, 126, 127, 128, 129, 130, 131, 132, 133, 134, 135, 136, 137, 138, 139, 140, 141, 142, 143, 144, 145, 146, 147, 148, 149, 150, 151, 152, 153, 154, 2, 155, 156, 157, 158, 159, 160, 161, 12, 119, 120, 13] (fun k9 R9 wJ => ∃ (j : Nat), ∃ (n : Nat), R9 = [(13, .int .i64 (j : Int)), (12, .int .i64 (n : Int))] ∧ (j ≤ 4) ∧ (n ≤ j) ∧ (n = (ss.take j).countP (fun s => decide (s = 2))) ∧ (Vw (Plus (Plus (Plus M bmn_4) k_8) k_27) bvn_4 bmn_4 (applyV l (r_34 + 1) (oneM r_15 (30 - (5 * r_15)))) wJ) ∧ (Evo No w11 wJ) ∧ (Evo No w wJ) ∧ (Blk k_8 (bk .i64 ss) 3 wJ) ∧ (Blk k_27 [.int .i64 r_15, .int .i64 (30 - (5 * r_15)), .int .i64 (30 - (5 * r_15) + 5), .int .i64 0, .slice eam_22 enm_22 ecm_22, .slice oam_22 onm_22 ocm_22] 31 wJ) ∧ k9 = 4 - j) ⟨_, _, ⟨0, 0, rfl, Nat.zero_le _, Nat.le_refl _, (by simp), V_65, Evo.refl _ _, z11, c_62, c_63, rfl⟩, ⟨(by kernel_rfl), (by kernel_rfl), trivial⟩⟩ (fun k9 R9 u_139 w12 J_140 => ?_)
          obtain ⟨j, n, rfl, hj, hnb, hn9, V8, x9j, z9j, m9j_k_8, m9j_k_27, rfl⟩ := J_140
          have e0_12 : Evo M w w12 := e0_11.trans x9j.no
          have ev_12 : Evo (Plus (Plus M bmn_4) k_8) w4 w12 := ev_11.trans x9j.no
          have e6_12 : Evo (Plus (Plus M bmn_4) k_8) w6 w12 := e6_11.trans x9j.no
          have e7_12 : Evo (Plus (Plus (Plus M bmn_4) k_8) k_27) w7 w12 := e7_11.trans x9j.no
          have e11_12 : Evo (Plus (Plus (Plus M bmn_4) k_8) k_27) w11 w12 := x9j.no
          have exj_12 : Evo (Plus (Plus (Plus M bmn_4) k_8) k_27) w11 w12 := x9j.no
          have enj_12 : Evo No w11 w12 := x9j
          have hxj := hI.len
          refine seq ?_
          refine seq ?_
          refine region [true, true] ?_
          refine q_move (v := .int .i64 (j : Int)) rfl rfl ?_
          refine q_lss rfl rfl rfl ?_
          refine done ?_
          refine thenN ?_
          refine cond_b rfl (fun h_141 => ?_) (fun h_141 => ?_)
          · skip
            have h_141p := of_decide_eq_true h_141
            refine wp_skip ?_
            refine thenN ?_
            refine seq ?_
            refine blk ?_
            refine seq ?_
            refine seq ?_
            refine regionD No (.q 0 (.q 1 (.q 3 (.q 4 (.q 5 (.q 6 (.l 2 (.q 7 (.q 8 (.q 9 (.q 10 (.q 11 (.q 12 (.q 13 (.q 20 (.q 21 (.q 22 (.q 23 (.q 24 (.l 14 (.q 15 (.q 16 (.q 17 (.l 18 (.l 19 (.q 25 (.q 26 (.q 27 (.q 28 (.q 29 (.q 30 (.q 31 (.q 32 (.q 33 (.nil))))))))))))))))))))))))))))))))))) mixed (by kernel_rfl) (by kernel_rfl) (by kernel_rfl) (fun w13 s13 => ?_)
            have e0_13 : Evo M w w13 := e0_12.trans s13.no
            have ev_13 : Evo (Plus (Plus M bmn_4) k_8) w4 w13 := ev_12.trans s13.no
            have e6_13 : Evo (Plus (Plus M bmn_4) k_8) w6 w13 := e6_12.trans s13.no
            have e7_13 : Evo (Plus (Plus (Plus M bmn_4) k_8) k_27) w7 w13 := e7_12.trans s13.no
            have e11_13 : Evo (Plus (Plus (Plus M bmn_4) k_8) k_27) w11 w13 := e11_12.trans s13.no
            have exj_13 : Evo (Plus (Plus (Plus M bmn_4) k_8) k_27) w11 w13 := exj_12.trans s13.no
            have enj_13 : Evo No w11 w13 := enj_12.trans s13.no
            have z13 : Evo No w w13 := z9j.trans s13.no
            have c_142 := m9j_k_8.no s13
            have c_143 := m9j_k_27.no s13
            have V_144 := V8.no s13
            have rgr_145_13 : Evo No w12 w13 := s13.no
            refine q_move (v := .pointer (some ⟨bvn_4, 0, none⟩)) rfl rfl ?_
            refine q_move (v := .int .i64 (j : Int)) rfl rfl ?_
            refine q_move (v := .slice (some ⟨k_8, 0, none⟩) 4 4) rfl rfl ?_
            refine q_move (v := .int .i64 (j : Int)) rfl rfl ?_
            obtain ⟨y_146, hy_146⟩ := get_lt (xs := ss) (i := ((j : Int)).toNat) (by omega)
            refine q_indexAddr rfl rfl rfl el22 (by omega) (by omega) ?_
            refine q_load rfl rfl pl3 (fun w0 e0 => Blk.cellI ((fun _ e => m9j_k_8.no e) w0 e0) hy_146) ?_
            have hst : stateOf (applyV l (r_34 + 1) (oneM r_15 (30 - (5 * r_15)))) (j : Int) = y_146 := hI.state (k := j) (by omega) hy_146
            refine l_call (Keep.evo rgr_145_13 noX) rfl (vState_c (M := (Plus (Plus (Plus M bmn_4) k_8) k_27)) w13 (ok_27.on e7_13) bvn_4 bmn_4 (applyV l (r_34 + 1) (oneM r_15 (30 - (5 * r_15)))) V_144 (j : Int)) en14 rfl rfl (fun v_147 w14 s14 q_148 => ?_)
            have e0_14 : Evo M w w14 := e0_13.trans s14.no
            have ev_14 : Evo (Plus (Plus M bmn_4) k_8) w4 w14 := ev_13.trans s14.no
            have e6_14 : Evo (Plus (Plus M bmn_4) k_8) w6 w14 := e6_13.trans s14.no
            have e7_14 : Evo (Plus (Plus (Plus M bmn_4) k_8) k_27) w7 w14 := e7_13.trans s14.no
            have e11_14 : Evo (Plus (Plus (Plus M bmn_4) k_8) k_27) w11 w14 := e11_13.trans s14.no
            have exj_14 : Evo (Plus (Plus (Plus M bmn_4) k_8) k_27) w11 w14 := exj_13.trans s14.no
            have enj_14 : Evo No w11 w14 := enj_13.trans s14.no
            have z14 : Evo No w w14 := z13.trans s14.no
            have c_149 := c_142.no s14
            have c_150 := c_143.no s14
            have V_151 := V_144.no s14
            have rgr_145_14 : Evo No w12 w14 := rgr_145_13.trans s14.no
            obtain rfl := q_148
            refine q_neq rfl rfl rfl ?_
            refine q_move (v := .bool (!(decide (stateOf (applyV l (r_34 + 1) (oneM r_15 (30 - (5 * r_15)))) (j : Int) = y_146)))) rfl rfl ?_
            refine q_move (v := .pointer (some ⟨bvn_4, 0, none⟩)) (gff (notF (decide_eq_true hst))) rfl ?_
            refine q_move (v := .int .i64 (j : Int)) (gff (notF (decide_eq_true hst))) rfl ?_
            refine q_move (v := .int .i64 (j : Int)) (gff (notF (decide_eq_true hst))) rfl ?_
            refine q_mul (gff (notF (decide_eq_true hst))) rfl rfl (wi64 (by omega) (by omega)) ?_
            refine q_sub (gff (notF (decide_eq_true hst))) rfl rfl (wi64 (by omega) (by omega)) ?_
            refine q_move (v := .slice (some ⟨k_8, 0, none⟩) 4 4) (gff (notF (decide_eq_true hst))) rfl ?_
            refine q_move (v := .int .i64 (j : Int)) (gff (notF (decide_eq_true hst))) rfl ?_
            refine q_indexAddr (gff (notF (decide_eq_true hst))) rfl rfl el22 (by omega) (by omega) ?_
            refine q_load (gff (notF (decide_eq_true hst))) rfl pl3 (fun w0 e0 => Blk.cellI ((fun _ e => m9j_k_8.no e) w0 e0) hy_146) ?_
            refine q_eql (gff (notF (decide_eq_true hst))) rfl rfl ?_
            refine l_call (Keep.evo rgr_145_14 noX) (gff (notF (decide_eq_true hst))) (one_c (M := (Plus (Plus (Plus M bmn_4) k_8) k_27)) w14 (ok_27.on e7_14) (j : Int) (30 - (5 * (j : Int))) (by omega) (by omega) (by omega) (by omega)) en10 rfl rfl (fun v_155 w15 s15 q_156 => ?_)
            have e0_15 : Evo M w w15 := e0_14.trans s15.no
            have ev_15 : Evo (Plus (Plus M bmn_4) k_8) w4 w15 := ev_14.trans s15.no
            have e6_15 : Evo (Plus (Plus M bmn_4) k_8) w6 w15 := e6_14.trans s15.no
            have e7_15 : Evo (Plus (Plus (Plus M bmn_4) k_8) k_27) w7 w15 := e7_14.trans s15.no
            have e11_15 : Evo (Plus (Plus (Plus M bmn_4) k_8) k_27) w11 w15 := e11_14.trans s15.no
            have exj_15 : Evo (Plus (Plus (Plus M bmn_4) k_8) k_27) w11 w15 := exj_14.trans s15.no
            have enj_15 : Evo No w11 w15 := enj_14.trans s15.no
            have z15 : Evo No w w15 := z14.trans s15.no
            have c_157 := c_149.no s15
            have c_158 := c_150.no s15
            have V_159 := V_151.no s15
            have rgr_145_15 : Evo No w12 w15 := rgr_145_14.trans s15.no
            obtain ⟨cs_152, rfl, hC_153⟩ := q_156
            obtain ⟨eam_154, enm_154, ecm_154, oam_154, onm_154, ocm_154, rfl, eNm_154, oNm_154, hem_154, hom_154⟩ := Mrd.open hC_153
            have olm_154 : onm_154 = 2 := hom_154.here.len
            refine q_field (v := .slice oam_154 onm_154 ocm_154) (gff (notF (decide_eq_true hst))) rfl fp31_5 rfl ?_
            obtain ⟨x_160, hx_160⟩ := Sl.get (xs := (oneM (j : Int) (30 - (5 * (j : Int)))).objects) hom_154.here (i := 1) (by omega) (by omega)
            have Ax_160 := Sl.areaAt hom_154 (Sl.map_get hx_160)
            refine q_indexS' (gff (notF (decide_eq_true hst))) rfl rfl el29 (hom_154.here.there (by omega)).1 (by omega) (by omega) ?_
            have hnx_160 := lv_obj hx_160
            refine q_fieldAddr (gff (notF (decide_eq_true hst))) rfl fl46_0 ?_
            refine l_load rgr_145_15 (gff (notF (decide_eq_true hst))) rfl pl9 ((Ax_160.now (Evo.refl (Plus (Plus (Plus M bmn_4) k_8) k_27) _)) 0 _ rfl) ?_
            have hrf : refersOf (applyV l (r_34 + 1) (oneM r_15 (30 - (5 * r_15)))) x_160.name = (decide (y_146 = 1) || decide (y_146 = 2)) := by rw [hnx_160]; exact hI.refers (k := j) (by omega) hy_146
            refine l_call (Keep.evo rgr_145_15 noX) (gff (notF (decide_eq_true hst))) (vRefers_c (M := (Plus (Plus (Plus M bmn_4) k_8) k_27)) w15 (ok_27.on e7_15) bvn_4 bmn_4 (applyV l (r_34 + 1) (oneM r_15 (30 - (5 * r_15)))) V_159 x_160.name) en15 rfl rfl (fun v_161 w16 s16 q_162 => ?_)
            have e0_16 : Evo M w w16 := e0_15.trans s16.no
            have ev_16 : Evo (Plus (Plus M bmn_4) k_8) w4 w16 := ev_15.trans s16.no
            have e6_16 : Evo (Plus (Plus M bmn_4) k_8) w6 w16 := e6_15.trans s16.no
            have e7_16 : Evo (Plus (Plus (Plus M bmn_4) k_8) k_27) w7 w16 := e7_15.trans s16.no
            have e11_16 : Evo (Plus (Plus (Plus M bmn_4) k_8) k_27) w11 w16 := e11_15.trans s16.no
            have exj_16 : Evo (Plus (Plus (Plus M bmn_4) k_8) k_27) w11 w16 := exj_15.trans s16.no
            have enj_16 : Evo No w11 w16 := enj_15.trans s16.no
            have e15_16 : Evo (Plus (Plus (Plus M bmn_4) k_8) k_27) w15 w16 := s16.no
            have z16 : Evo No w w16 := z15.trans s16.no
            have c_163 := c_157.no s16
            have c_164 := c_158.no s16
            have V_165 := V_159.no s16
            have rgr_145_16 : Evo No w12 w16 := rgr_145_15.trans s16.no
            obtain rfl := q_162
            refine q_move (v := .bool (decide (y_146 = 1))) (gff (notF (decide_eq_true hst))) rfl ?_
            rcases bsplit (decide (y_146 = 1)) with h_166 | h_166
            · skip
              have h_166p := of_decide_eq_true h_166
              refine q_no (gtf h_166) ?_
              refine q_no (gtf h_166) ?_
              refine q_no (gtf h_166) ?_
              refine q_no (gtf h_166) ?_
              refine q_no (gtf h_166) ?_
              refine q_pick_bt (v := .bool true) (gff (notF (decide_eq_true hst))) rfl h_166 rfl ?_
              refine q_boolNeq (gff (notF (decide_eq_true hst))) rfl rfl bo4 ?_
              refine q_pick_bf (v := .bool (!(decide ((refersOf (applyV l (r_34 + 1) (oneM r_15 (30 - (5 * r_15)))) x_160.name : Bool) = true)))) rfl rfl (notF (decide_eq_true hst)) rfl ?_
              refine done ?_
              refine thenN ?_
              refine cond_b rfl (fun h_167 => ?_) (fun h_167 => ?_)
              · skip
                have h_168 := unT h_167
                have h_168p := of_decide_eq_false h_168
                exact absurd (by rw [hrf]; simp [h_166]) (of_decide_eq_false h_168)
              · skip
                have h_169 := unF h_167
                have h_169p := of_decide_eq_true h_169
                refine wp_skip ?_
                refine thenN ?_
                refine seq ?_
                refine region [true, true, true, false, true] ?_
                refine q_move (v := .slice (some ⟨k_8, 0, none⟩) 4 4) rfl rfl ?_
                refine q_move (v := .int .i64 (j : Int)) rfl rfl ?_
                refine q_indexAddr rfl rfl rfl el22 (by omega) (by omega) ?_
                refine l_load trivial rfl rfl pl3 (Blk.cellI c_163 hy_146) ?_
                refine q_eql rfl rfl rfl ?_
                refine done ?_
                refine thenN ?_
                refine cond_b rfl (fun h_170 => ?_) (fun h_170 => ?_)
                · skip
                  have h_170p := of_decide_eq_true h_170
                  refine region [true, true, true] ?_
                  refine q_move (v := .int .i64 (n : Int)) rfl rfl ?_
                  refine q_add rfl rfl rfl (wi64 (by omega) (by omega)) ?_
                  refine q_assign (v := .int .i64 ((n : Int) + 1)) rfl rfl ?_
                  refine done ?_
                  refine blkN ?_
                  refine thenN ?_
                  refine region [true, true, true] ?_
                  refine q_move (v := .int .i64 (j : Int)) rfl rfl ?_
                  refine q_add rfl rfl rfl (wi64 (by omega) (by omega)) ?_
                  refine q_assign (v := .int .i64 ((j : Int) + 1)) rfl rfl ?_
                  refine done ?_
                  refine thenN ?_
                  have hcn := cnt_snoc (j := j) hy_146; rw [if_pos (of_decide_eq_true h_170)] at hcn
                  refine ⟨_, _, ?_, ⟨j + 1, n + 1, rfl, by omega, by omega, by omega, V_165, enj_16, z16, c_163, c_164, rfl⟩, Env.near_at 97 (by kernel_rfl) (by kernel_rfl) ⟨(Eq.trans (b := Go.Value.int .i64 ((j : Int) + 1)) (by kernel_rfl) (nextI j)), (Eq.trans (b := Go.Value.int .i64 ((n : Int) + 1)) (by kernel_rfl) (nextI n)), trivial⟩⟩
                  omega
                · skip
                  have h_170p := of_decide_eq_false h_170
                  refine wp_skip ?_
                  refine blkN ?_
                  refine thenN ?_
                  refine region [true, true, true] ?_
                  refine q_move (v := .int .i64 (j : Int)) rfl rfl ?_
                  refine q_add rfl rfl rfl (wi64 (by omega) (by omega)) ?_
                  refine q_assign (v := .int .i64 ((j : Int) + 1)) rfl rfl ?_
                  refine done ?_
                  refine thenN ?_
                  have hcn := cnt_snoc (j := j) hy_146; rw [if_neg (of_decide_eq_false h_170)] at hcn
                  refine ⟨_, _, ?_, ⟨j + 1, n, rfl, by omega, by omega, by omega, V_165, enj_16, z16, c_163, c_164, rfl⟩, Env.near_at 94 (by kernel_rfl) (by kernel_rfl) ⟨(Eq.trans (b := Go.Value.int .i64 ((j : Int) + 1)) (by kernel_rfl) (nextI j)), (by kernel_rfl), trivial⟩⟩
                  omega
            · skip
              have h_166p := of_decide_eq_false h_166
              refine q_move (v := .slice (some ⟨k_8, 0, none⟩) 4 4) (gff h_166) rfl ?_
              refine q_move (v := .int .i64 (j : Int)) (gff h_166) rfl ?_
              refine q_indexAddr (gff h_166) rfl rfl el22 (by omega) (by omega) ?_
              refine q_load (gff h_166) rfl pl3 (fun w0 e0 => Blk.cellI ((fun _ e => m9j_k_8.no e) w0 e0) hy_146) ?_
              refine q_eql (gff h_166) rfl rfl ?_
              refine q_pick_bf (v := .bool (decide (y_146 = 2))) (gff (notF (decide_eq_true hst))) rfl h_166 rfl ?_
              refine q_boolNeq (gff (notF (decide_eq_true hst))) rfl rfl bo4 ?_
              refine q_pick_bf (v := .bool (!(decide ((refersOf (applyV l (r_34 + 1) (oneM r_15 (30 - (5 * r_15)))) x_160.name : Bool) = decide (y_146 = 2))))) rfl rfl (notF (decide_eq_true hst)) rfl ?_
              refine done ?_
              refine thenN ?_
              refine cond_b rfl (fun h_171 => ?_) (fun h_171 => ?_)
              · skip
                have h_172 := unT h_171
                have h_172p := of_decide_eq_false h_172
                exact absurd (by rw [hrf]; simp [h_166]) (of_decide_eq_false h_172)
              · skip
                have h_173 := unF h_171
                have h_173p := of_decide_eq_true h_173
                refine wp_skip ?_
                refine thenN ?_
                refine seq ?_
                refine region [true, true, true, false, true] ?_
                refine q_move (v := .slice (some ⟨k_8, 0, none⟩) 4 4) rfl rfl ?_
                refine q_move (v := .int .i64 (j : Int)) rfl rfl ?_
                refine q_indexAddr rfl rfl rfl el22 (by omega) (by omega) ?_
                refine l_load trivial rfl rfl pl3 (Blk.cellI c_163 hy_146) ?_
                refine q_eql rfl rfl rfl ?_
                refine done ?_
                refine thenN ?_
                refine cond_b rfl (fun h_174 => ?_) (fun h_174 => ?_)
                · skip
                  have h_174p := of_decide_eq_true h_174
                  refine region [true, true, true] ?_
                  refine q_move (v := .int .i64 (n : Int)) rfl rfl ?_
                  refine q_add rfl rfl rfl (wi64 (by omega) (by omega)) ?_
                  refine q_assign (v := .int .i64 ((n : Int) + 1)) rfl rfl ?_
                  refine done ?_
                  refine blkN ?_
                  refine thenN ?_
                  refine region [true, true, true] ?_
                  refine q_move (v := .int .i64 (j : Int)) rfl rfl ?_
                  refine q_add rfl rfl rfl (wi64 (by omega) (by omega)) ?_
                  refine q_assign (v := .int .i64 ((j : Int) + 1)) rfl rfl ?_
                  refine done ?_
                  refine thenN ?_
                  have hcn := cnt_snoc (j := j) hy_146; rw [if_pos (of_decide_eq_true h_174)] at hcn
                  refine ⟨_, _, ?_, ⟨j + 1, n + 1, rfl, by omega, by omega, by omega, V_165, enj_16, z16, c_163, c_164, rfl⟩, Env.near_at 97 (by kernel_rfl) (by kernel_rfl) ⟨(Eq.trans (b := Go.Value.int .i64 ((j : Int) + 1)) (by kernel_rfl) (nextI j)), (Eq.trans (b := Go.Value.int .i64 ((n : Int) + 1)) (by kernel_rfl) (nextI n)), trivial⟩⟩
                  omega
                · skip
                  have h_174p := of_decide_eq_false h_174
                  refine wp_skip ?_
                  refine blkN ?_
                  refine thenN ?_
                  refine region [true, true, true] ?_
                  refine q_move (v := .int .i64 (j : Int)) rfl rfl ?_
                  refine q_add rfl rfl rfl (wi64 (by omega) (by omega)) ?_
                  refine q_assign (v := .int .i64 ((j : Int) + 1)) rfl rfl ?_
                  refine done ?_
                  refine thenN ?_
                  have hcn := cnt_snoc (j := j) hy_146; rw [if_neg (of_decide_eq_false h_174)] at hcn
                  refine ⟨_, _, ?_, ⟨j + 1, n, rfl, by omega, by omega, by omega, V_165, enj_16, z16, c_163, c_164, rfl⟩, Env.near_at 94 (by kernel_rfl) (by kernel_rfl) ⟨(Eq.trans (b := Go.Value.int .i64 ((j : Int) + 1)) (by kernel_rfl) (nextI j)), (by kernel_rfl), trivial⟩⟩
                  omega
          · skip
            have h_141p := of_decide_eq_false h_141
            refine wp_exit ?_
            refine thenX ?_
            refine thenX ?_
            refine blkX ?_
            refine thenN ?_
            refine seq ?_
            refine region [true, false, false, true] ?_
            refine q_move (v := .pointer (some ⟨bvn_4, 0, none⟩)) rfl rfl ?_
            refine l_buildSlice (M := (Plus (Plus (Plus M bmn_4) k_8) k_27)) (e := 3) (cs := [.int .i64 2]) Keep.any (ok_27.on e7_12) rfl rfl (fun _ => by kernel_rfl) (fun k_175 w13 s13 fk_175 nk_175 => ?_)
            have e0_13 : Evo M w w13 := e0_12.trans s13.no
            have ev_13 : Evo (Plus (Plus M bmn_4) k_8) w4 w13 := ev_12.trans s13.no
            have e6_13 : Evo (Plus (Plus M bmn_4) k_8) w6 w13 := e6_12.trans s13.no
            have e7_13 : Evo (Plus (Plus (Plus M bmn_4) k_8) k_27) w7 w13 := e7_12.trans s13.no
            have e11_13 : Evo (Plus (Plus (Plus M bmn_4) k_8) k_27) w11 w13 := e11_12.trans s13.no
            have exj_13 : Evo (Plus (Plus (Plus M bmn_4) k_8) k_27) w11 w13 := exj_12.trans s13.no
            have enj_13 : Evo No w11 w13 := enj_12.trans s13.no
            have z13 : Evo No w w13 := z9j.trans s13.no
            have c_176 := m9j_k_8.no s13
            have c_177 := m9j_k_27.no s13
            have V_178 := V8.no s13
            have hPs := fk_175.imp fun w9 _ h9 => Sl.ofBlk (k := 1) (rows := [(2 : Int)].map encI) h9 rfl (by simp [encI]) rfl
            refine l_call Keep.any rfl (vIn_c (M := (Plus (Plus (Plus M bmn_4) k_8) k_27)) w13 (ok_27.on e7_13) bvn_4 bmn_4 (applyV l (r_34 + 1) (oneM r_15 (30 - (5 * r_15)))) V_178 (by have := hI.few; omega) [2] _ _ _ (hPs.on (Evo.refl (Plus (Plus (Plus M bmn_4) k_8) k_27) _)) (by simp)) en13 rfl rfl (fun v_180 w14 s14 q_181 => ?_)
            have e0_14 : Evo M w w14 := e0_13.trans s14.no
            have ev_14 : Evo (Plus (Plus M bmn_4) k_8) w4 w14 := ev_13.trans s14.no
            have e6_14 : Evo (Plus (Plus M bmn_4) k_8) w6 w14 := e6_13.trans s14.no
            have e7_14 : Evo (Plus (Plus (Plus M bmn_4) k_8) k_27) w7 w14 := e7_13.trans s14.no
            have e11_14 : Evo (Plus (Plus (Plus M bmn_4) k_8) k_27) w11 w14 := e11_13.trans s14.no
            have exj_14 : Evo (Plus (Plus (Plus M bmn_4) k_8) k_27) w11 w14 := exj_13.trans s14.no
            have enj_14 : Evo No w11 w14 := enj_13.trans s14.no
            have e13_14 : Evo (Plus (Plus (Plus M bmn_4) k_8) k_27) w13 w14 := s14.no
            have z14 : Evo No w w14 := z13.trans s14.no
            have c_182 := c_176.no s14
            have c_183 := c_177.no s14
            have V_184 := V_178.no s14
            obtain ⟨ai_179, ni_179, ci_179, zsi_179, rfl, hpi_179, hsi_179, hzi_179, hmi_179⟩ := q_181
            have hz9 := hI.sorted hpi_179 hsi_179
            have hzl := hzi_179.here.len; rw [List.length_map] at hzl
            have hz8 := hz9.1
            have hj4 : j = 4 := by omega
            subst hj4
            rw [List.take_of_length_le (by have := hI.len; omega)] at hn9
            refine q_assign (v := .slice ai_179 ni_179 ci_179) rfl rfl ?_
            refine done ?_
            refine thenN ?_
            refine seq ?_
            refine seq ?_
            refine region [true] ?_
            refine q_assign (v := .int .i64 1) rfl rfl ?_
            refine done ?_
            refine thenN ?_
            refine blk ?_
            have y_185 := (y_137.on exj_14)
            have y_186 := (y_138.on exj_14)
            have y_187 := (hzi_179.on (Evo.refl (Plus (Plus (Plus M bmn_4) k_8) k_27) _))
            have y_188 := (fk_175.on e13_14)
            refine loopN [165, 166, 167, 168, 171, 172, 173, 174, 175, 176, 177, 178, 179, 180, 181, 182, 2, 169, 170, 15] (fun k9 R9 wJ => ∃ (q : Nat), R9 = [(15, .int .i64 (q : Int))] ∧ (1 ≤ q) ∧ (q ≤ ni_179 + 1) ∧ (Vw (Plus (Plus (Plus M bmn_4) k_8) k_27) bvn_4 bmn_4 (applyV l (r_34 + 1) (oneM r_15 (30 - (5 * r_15)))) wJ) ∧ (Evo No w14 wJ) ∧ (Evo No w wJ) ∧ (Blk k_8 (bk .i64 ss) 3 wJ) ∧ (Blk k_27 [.int .i64 r_15, .int .i64 (30 - (5 * r_15)), .int .i64 (30 - (5 * r_15) + 5), .int .i64 0, .slice eam_22 enm_22 ecm_22, .slice oam_22 onm_22 ocm_22] 31 wJ) ∧ k9 = ni_179 + 1 - q) ⟨_, _, ⟨1, rfl, Nat.le_refl _, by omega, V_184, Evo.refl _ _, z14, c_182, c_183, rfl⟩, ⟨(by kernel_rfl), trivial⟩⟩ (fun k9 R9 u_189 w15 J_190 => ?_)
            obtain ⟨q, rfl, hq0, hq1, V7, x9q, z9q, m9q_k_8, m9q_k_27, rfl⟩ := J_190
            have e0_15 : Evo M w w15 := e0_14.trans x9q.no
            have ev_15 : Evo (Plus (Plus M bmn_4) k_8) w4 w15 := ev_14.trans x9q.no
            have e6_15 : Evo (Plus (Plus M bmn_4) k_8) w6 w15 := e6_14.trans x9q.no
            have e7_15 : Evo (Plus (Plus (Plus M bmn_4) k_8) k_27) w7 w15 := e7_14.trans x9q.no
            have e11_15 : Evo (Plus (Plus (Plus M bmn_4) k_8) k_27) w11 w15 := e11_14.trans x9q.no
            have exj_15 : Evo (Plus (Plus (Plus M bmn_4) k_8) k_27) w11 w15 := exj_14.trans x9q.no
            have enj_15 : Evo No w11 w15 := enj_14.trans x9q.no
            have e13_15 : Evo (Plus (Plus (Plus M bmn_4) k_8) k_27) w13 w15 := e13_14.trans x9q.no
            have e14_15 : Evo (Plus (Plus (Plus M bmn_4) k_8) k_27) w14 w15 := x9q.no
            have exq_15 : Evo (Plus (Plus (Plus M bmn_4) k_8) k_27) w14 w15 := x9q.no
            have enq_15 : Evo No w14 w15 := x9q
            refine seq ?_
            refine seq ?_
            refine region [true, true, true, true] ?_
            refine q_move (v := .int .i64 (q : Int)) rfl rfl ?_
            refine q_move (v := .slice ai_179 ni_179 ci_179) rfl rfl ?_
            refine q_len rfl rfl el39 ?_
            refine q_lss rfl rfl rfl ?_
            refine done ?_
            refine thenN ?_
            refine cond_b rfl (fun h_191 => ?_) (fun h_191 => ?_)
            · skip
              have h_191p := of_decide_eq_true h_191
              refine wp_skip ?_
              refine thenN ?_
              refine seq ?_
              refine blk ?_
              refine seq ?_
              refine regionD No (.q 0 (.q 1 (.q 2 (.q 3 (.q 4 (.q 5 (.q 6 (.q 7 (.q 8 (.q 9 (.q 10 (.q 11 (.nil))))))))))))) mixed (by kernel_rfl) (by kernel_rfl) (by kernel_rfl) (fun w16 s16 => ?_)
              have e0_16 : Evo M w w16 := e0_15.trans s16.no
              have ev_16 : Evo (Plus (Plus M bmn_4) k_8) w4 w16 := ev_15.trans s16.no
              have e6_16 : Evo (Plus (Plus M bmn_4) k_8) w6 w16 := e6_15.trans s16.no
              have e7_16 : Evo (Plus (Plus (Plus M bmn_4) k_8) k_27) w7 w16 := e7_15.trans s16.no
              have e11_16 : Evo (Plus (Plus (Plus M bmn_4) k_8) k_27) w11 w16 := e11_15.trans s16.no
              have exj_16 : Evo (Plus (Plus (Plus M bmn_4) k_8) k_27) w11 w16 := exj_15.trans s16.no
              have enj_16 : Evo No w11 w16 := enj_15.trans s16.no
              have e13_16 : Evo (Plus (Plus (Plus M bmn_4) k_8) k_27) w13 w16 := e13_15.trans s16.no
              have e14_16 : Evo (Plus (Plus (Plus M bmn_4) k_8) k_27) w14 w16 := e14_15.trans s16.no
              have exq_16 : Evo (Plus (Plus (Plus M bmn_4) k_8) k_27) w14 w16 := exq_15.trans s16.no
              have enq_16 : Evo No w14 w16 := enq_15.trans s16.no
              have z16 : Evo No w w16 := z9q.trans s16.no
              have c_192 := m9q_k_8.no s16
              have c_193 := m9q_k_27.no s16
              have V_194 := V7.no s16
              have rgr_195_16 : Evo No w15 w16 := s16.no
              refine q_move (v := .slice ai_179 ni_179 ci_179) rfl rfl ?_
              refine q_move (v := .int .i64 (q : Int)) rfl rfl ?_
              obtain ⟨x_196, hx_196⟩ := Sl.get (xs := zsi_179) y_187.here (i := (q : Int)) (by omega) (by omega)
              have Ax_196 := Sl.areaAt y_187 (Sl.map_get hx_196)
              refine q_indexS' rfl rfl rfl el39 (y_187.here.there (by omega)).1 (by omega) (by omega) ?_
              refine q_fieldAddr rfl rfl fl31_1 ?_
              refine q_load rfl rfl pl2 (fun w0 e0 => (Ax_196.via exq_15 noX) w0 e0 1 _ rfl) ?_
              refine q_move (v := .slice ai_179 ni_179 ci_179) rfl rfl ?_
              refine q_move (v := .int .i64 (q : Int)) rfl rfl ?_
              refine q_sub rfl rfl rfl (wi64 (by omega) (by omega)) ?_
              obtain ⟨x_197, hx_197⟩ := Sl.get (xs := zsi_179) y_187.here (i := (q : Int) - 1) (by omega) (by omega)
              have Ax_197 := Sl.areaAt y_187 (Sl.map_get hx_197)
              refine q_indexS' rfl rfl rfl el39 (y_187.here.there (by omega)).1 (by omega) (by omega) ?_
              refine q_fieldAddr rfl rfl fl31_1 ?_
              refine q_load rfl rfl pl2 (fun w0 e0 => (Ax_197.via exq_15 noX) w0 e0 1 _ rfl) ?_
              refine q_leq rfl rfl rfl ?_
              refine done ?_
              refine thenN ?_
              refine cond_b rfl (fun h_198 => ?_) (fun h_198 => ?_)
              · skip
                have h_198p := of_decide_eq_true h_198
                have hq := pair_at hz9.2 (i := q - 1) (j := q) (by omega) (by rw [← show ((q : Int) - 1).toNat = q - 1 from by omega]; exact hx_197) hx_196
                exact absurd (of_decide_eq_true h_198) (by omega)
              · skip
                have h_198p := of_decide_eq_false h_198
                refine wp_skip ?_
                refine blkN ?_
                refine thenN ?_
                refine region [true, true, true] ?_
                refine q_move (v := .int .i64 (q : Int)) rfl rfl ?_
                refine q_add rfl rfl rfl (wi64 (by omega) (by omega)) ?_
                refine q_assign (v := .int .i64 ((q : Int) + 1)) rfl rfl ?_
                refine done ?_
                refine thenN ?_
                refine ⟨_, _, ?_, ⟨q + 1, rfl, by omega, by omega, V_194, enq_16, z16, c_192, c_193, rfl⟩, Env.near_at 40 (by kernel_rfl) (by kernel_rfl) ⟨(Eq.trans (b := Go.Value.int .i64 ((q : Int) + 1)) (by kernel_rfl) (nextI q)), trivial⟩⟩
                omega
            · skip
              have h_191p := of_decide_eq_false h_191
              refine wp_exit ?_
              refine thenX ?_
              refine thenX ?_
              refine blkX ?_
              refine thenN ?_
              refine seq ?_
              refine region [true, true, true, true] ?_
              refine q_move (v := .slice ai_179 ni_179 ci_179) rfl rfl ?_
              refine q_len rfl rfl el39 ?_
              refine q_move (v := .int .i64 (n : Int)) rfl rfl ?_
              refine q_neq rfl rfl rfl ?_
              refine done ?_
              refine thenN ?_
              refine cond_b rfl (fun h_199 => ?_) (fun h_199 => ?_)
              · skip
                have h_200 := unT h_199
                have h_200p := of_decide_eq_false h_200
                exact absurd (by omega) (of_decide_eq_false h_200)
              · skip
                have h_201 := unF h_199
                have h_201p := of_decide_eq_true h_201
                refine wp_skip ?_
                refine blkN ?_
                refine thenN ?_
                refine region [true, true, true] ?_
                refine q_move (v := .int .i64 (i : Int)) rfl rfl ?_
                refine q_add rfl rfl rfl (wi64 (by omega) (by omega)) ?_
                refine q_assign (v := .int .i64 ((i : Int) + 1)) rfl rfl ?_
                refine done ?_
                refine thenN ?_
                refine ⟨_, _, ?_, ⟨i + 1, (applyV l (r_34 + 1) (oneM r_15 (30 - (5 * r_15)))), ss, rfl, by omega, (V7.to (fun x hx => .inl (hx)) (Plus.old Plus.in)), (oM9.on ev_15), hI, m9q_k_8, z9q, rfl⟩, Env.near_at 345 (by kernel_rfl) (by kernel_rfl) ⟨(Eq.trans (b := Go.Value.int .i64 ((i : Int) + 1)) (by kernel_rfl) (nextI i)), trivial⟩⟩
                omega
    · skip
      have h_13p := of_decide_eq_false h_13
      refine wp_exit ?_
      refine thenX ?_
      refine thenX ?_
      refine blkX ?_
      refine thenN ?_
      refine seq ?_
      refine region [true] ?_
      refine q_assign (v := .bool true) rfl rfl ?_
      refine done ?_
      refine thenN ?_
      refine wp_ret ?_
      refine ret1v (.bool true) rfl rfl ?_
      exact ⟨z9, rfl⟩
end Go.Proofs.YtnkafkikjcgogaaDoor
