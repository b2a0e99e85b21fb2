import Derived.Test.YtnkafkikjcgogaaDoorSxg
import Derived.Test.YtnkafkikjcgogaaDoorF7
import Derived.Test.YtnkafkikjcgogaaDoorProg
import Derived.Test.YtnkafkikjcgogaaDoorRmod
import Derived.Test.YtnkafkikjcgogaaDoorVw1
import Derived.Test.YtnkafkikjcgogaaDoorVw5
import Derived.Test.YtnkafkikjcgogaaDoorVw6
set_option linter.unusedVariables false
set_option linter.unusedSimpArgs false
set_option maxRecDepth 4000
set_option maxHeartbeats 2000000
namespace Go.Proofs.YtnkafkikjcgogaaDoor
open Go.Sx F7

theorem refManiOk_c {M : Nat → Prop} (w : World) (hM : Old M w) (m : Mani) (ea : Option Addr) (en ec : Nat) (oa : Option Addr) (on oc : Nat) (he : At M w (Sl 2 (m.epochs.map encP) ea en ec)) (ho : At M w (Sl 3 (m.objects.map encO) oa on oc)) (eN : en ≤ 1048576) (oN : on ≤ 1048576) (hok : maniErr m = .ok) :
    Calls Tryd.prog 43 (List.toArray [.agg (List.toArray [.int .i64 m.id, .int .i64 m.base, .int .i64 m.end_, .int .i64 m.time, .slice ea en ec, .slice oa on oc])]) w (Ret No w fun v _ => v = flt 0 false 0) := by
  refine enter (n := 150) [(0, .agg (List.toArray [.int .i64 m.id, .int .i64 m.base, .int .i64 m.end_, .int .i64 m.time, .slice ea en ec, .slice oa on oc]))] Tryd.func43 rfl (by kernel_rfl) ?_
  have O := maniOk hok
  obtain ⟨i0, i1, rb, re, t0, t1, be, el, er, ei, en0, eh, ela, ol0, ol1, oa1, od⟩ := O
  have hel := he.here.len
  rw [List.length_map] at hel
  have hol := ho.here.len
  rw [List.length_map] at hol
  have hen : 0 < en := by rw [hel]; exact List.length_pos_iff.2 en0
  have d1 : decide (m.id < 0) = false := decide_eq_false (by omega)
  have d2 : decide (2147483647 < m.id) = false := decide_eq_false (by omega)
  have d3 : decide (m.end_ ≤ m.base) = false := decide_eq_false (by omega)
  have d4 : decide ((en : Int) = 0) = false := decide_eq_false (by omega)
  have d5 : decide ((on : Int) = 0) = false := decide_eq_false (by omega)
  have d6 : decide (8 < (on : Int)) = false := decide_eq_false (by omega)
  have d9 : (decide (-1099511627776 ≤ m.time) && decide (m.time ≤ 1099511627776)) = true := by simp; omega
  refine seq ?_
  refine region [false, false] ?_
  refine l_box (M := M) Keep.any hM rfl rfl (fun k_1 w1 s1 fk_1 nk_1 => ?_)
  have e0_1 : Evo M w w1 := s1.no
  have z1 : Evo No w w1 := s1.no
  refine l_alloc (M := M) Keep.any (hM.on z1) rfl ze57 (fun k_2 w2 s2 ck_2 nk_2 ok_2 => ?_)
  have lk_2_0 : w.heap.size ≤ k_2 := Nat.le_trans e0_1.size nk_2
  have lk_2_1 : w1.heap.size ≤ k_2 := Nat.le_trans (Evo.refl M _).size nk_2
  have lk_2_w : w.heap.size ≤ k_2 := Nat.le_trans z1.size nk_2
  have e0_2 : Evo M w w2 := e0_1.trans s2.no
  have e1_2 : Evo M w1 w2 := s2.no
  have z2 : Evo No w w2 := z1.trans s2.no
  have hlk_2 := ck_2.lt
  refine done ?_
  refine thenN ?_
  refine seq ?_
  refine seq ?_
  refine region [true, false, true, true, true, false, true, true, true, true, false, false, true, true, true, true, false, false, true, true, true, true, false, false, true, true, true, true, false, true, false, true, true] ?_
  refine q_fieldAddr rfl rfl fl31_0 ?_
  refine l_loadB trivial rfl rfl pl3 (fk_1.now e1_2) rfl ?_
  refine q_lss rfl rfl rfl ?_
  refine q_move (v := .bool (decide (m.id < 0))) rfl rfl ?_
  refine q_fieldAddr (gff d1) rfl fl31_0 ?_
  refine l_loadB trivial (gff d1) rfl pl3 (fk_1.now e1_2) rfl ?_
  refine q_gtr (gff d1) rfl rfl ?_
  refine q_pick_bf (v := .bool (decide (2147483647 < m.id))) rfl rfl d1 rfl ?_
  refine q_move (v := .bool (decide (2147483647 < m.id))) rfl rfl ?_
  refine q_fieldAddr (gff d2) rfl fl31_1 ?_
  refine l_loadB trivial (gff d2) rfl pl2 (fk_1.now e1_2) rfl ?_
  refine l_call Keep.any (gff d2) (refRight_c w2 m.base) en66 rfl rfl (fun v_3 w3 s3 q_4 => ?_)
  have e0_3 : Evo M w w3 := e0_2.trans s3.no
  have e1_3 : Evo M w1 w3 := e1_2.trans s3.no
  have z3 : Evo No w w3 := z2.trans s3.no
  have c_5 := ck_2.no s3
  obtain rfl := q_4
  refine q_not (gff d2) rfl ?_
  refine q_pick_bf (v := .bool (!(right m.base))) rfl rfl d2 rfl ?_
  refine q_move (v := .bool (!(right m.base))) rfl rfl ?_
  refine q_fieldAddr (gff (notF rb)) rfl fl31_2 ?_
  refine l_loadB trivial (gff (notF rb)) rfl pl2 (fk_1.now e1_3) rfl ?_
  refine l_call Keep.any (gff (notF rb)) (refRight_c w3 m.end_) en66 rfl rfl (fun v_6 w4 s4 q_7 => ?_)
  have e0_4 : Evo M w w4 := e0_3.trans s4.no
  have e1_4 : Evo M w1 w4 := e1_3.trans s4.no
  have z4 : Evo No w w4 := z3.trans s4.no
  have c_8 := c_5.no s4
  obtain rfl := q_7
  refine q_not (gff (notF rb)) rfl ?_
  refine q_pick_bf (v := .bool (!(right m.end_))) rfl rfl (notF rb) rfl ?_
  refine q_move (v := .bool (!(right m.end_))) rfl rfl ?_
  refine q_fieldAddr (gff (notF re)) rfl fl31_3 ?_
  refine l_loadB trivial (gff (notF re)) rfl pl2 (fk_1.now e1_4) rfl ?_
  refine l_call Keep.any (gff (notF re)) (refTime_c w4 m.time) en69 rfl rfl (fun v_9 w5 s5 q_10 => ?_)
  have e0_5 : Evo M w w5 := e0_4.trans s5.no
  have e1_5 : Evo M w1 w5 := e1_4.trans s5.no
  have z5 : Evo No w w5 := z4.trans s5.no
  have c_11 := c_8.no s5
  obtain rfl := q_10
  refine q_not (gff (notF re)) rfl ?_
  refine q_pick_bf (v := .bool (!(decide (-1099511627776 ≤ m.time) && decide (m.time ≤ 1099511627776)))) rfl rfl (notF re) rfl ?_
  refine q_move (v := .bool (!(decide (-1099511627776 ≤ m.time) && decide (m.time ≤ 1099511627776)))) rfl rfl ?_
  refine q_fieldAddr (gff (notF d9)) rfl fl31_2 ?_
  refine l_loadB trivial (gff (notF d9)) rfl pl2 (fk_1.now e1_5) rfl ?_
  refine q_fieldAddr (gff (notF d9)) rfl fl31_1 ?_
  refine l_loadB trivial (gff (notF d9)) rfl pl2 (fk_1.now e1_5) rfl ?_
  refine q_leq (gff (notF d9)) rfl rfl ?_
  refine q_pick_bf (v := .bool (decide (m.end_ ≤ m.base))) rfl rfl (notF d9) rfl ?_
  refine done ?_
  refine thenN ?_
  refine cond_bf rfl d3 ?_
  refine wp_skip ?_
  refine thenN ?_
  refine seq ?_
  refine region [true, false, false, true] ?_
  refine q_fieldAddr rfl rfl fl31_4 ?_
  refine l_loadB trivial rfl rfl pl28 (fk_1.now e1_5) rfl ?_
  refine l_call Keep.any rfl (refPairsOk_c (M := M) w5 m.epochs _ _ _ (he.on e0_5) el er ei) en70 rfl rfl (fun v_12 w6 s6 q_13 => ?_)
  have e0_6 : Evo M w w6 := e0_5.trans s6.no
  have e1_6 : Evo M w1 w6 := e1_5.trans s6.no
  have z6 : Evo No w w6 := z5.trans s6.no
  have c_14 := c_11.no s6
  obtain rfl := q_13
  refine q_assign (v := .int .i64 0) rfl rfl ?_
  refine done ?_
  refine thenN ?_
  refine seq ?_
  refine seq ?_
  refine region [true, true] ?_
  refine q_move (v := .int .i64 0) rfl rfl ?_
  refine q_neq rfl rfl rfl ?_
  refine done ?_
  refine thenN ?_
  refine cond_bf rfl (notF (by decide)) ?_
  refine wp_skip ?_
  refine thenN ?_
  refine seq ?_
  refine region [true, false, true, true] ?_
  refine q_fieldAddr rfl rfl fl31_4 ?_
  refine l_loadB trivial rfl rfl pl28 (fk_1.now e1_6) rfl ?_
  refine q_len rfl rfl el28 ?_
  refine q_assign (v := .int .i64 (en : Int)) rfl rfl ?_
  refine done ?_
  refine thenN ?_
  refine seq ?_
  refine seq ?_
  refine regionD No (.q 0 (.q 1 (.q 2 (.q 3 (.q 4 (.q 5 (.q 6 (.q 7 (.q 8 (.q 9 (.q 10 (.q 11 (.q 12 (.q 13 (.q 14 (.q 15 (.q 16 (.q 17 (.q 18 (.q 19 (.q 20 (.q 21 (.q 22 (.q 23 (.nil))))))))))))))))))))))))) mixed (by kernel_rfl) (by kernel_rfl) (by kernel_rfl) (fun w7 s7 => ?_)
  have e0_7 : Evo M w w7 := e0_6.trans s7.no
  have e1_7 : Evo M w1 w7 := e1_6.trans s7.no
  have z7 : Evo No w w7 := z6.trans s7.no
  have c_15 := c_14.no s7
  have rgr_16_7 : Evo No w6 w7 := s7.no
  refine q_move (v := .int .i64 (en : Int)) rfl rfl ?_
  refine q_eql rfl rfl rfl ?_
  refine q_move (v := .bool (decide ((en : Int) = 0))) rfl rfl ?_
  refine q_fieldAddr (gff d4) rfl fl31_4 ?_
  refine q_loadB (gff d4) rfl pl28 (fk_1.via e1_6 noX) rfl ?_
  obtain ⟨x_17, hx_17⟩ := Sl.get (xs := m.epochs) he.here (i := 0) (by omega) (by omega)
  have Ax_17 := Sl.areaAt he (Sl.map_get hx_17)
  refine q_indexS' (gff d4) rfl rfl el28 (he.here.there (by omega)).1 (by omega) (by omega) ?_
  refine q_fieldAddr (gff d4) rfl fl61_1 ?_
  refine q_load (gff d4) rfl pl2 (fun w0 e0 => (Ax_17.via e0_6 noX) w0 e0 1 _ rfl) ?_
  refine q_fieldAddr (gff d4) rfl fl31_1 ?_
  refine q_loadB (gff d4) rfl pl2 (fk_1.via e1_6 noX) rfl ?_
  refine q_neq (gff d4) rfl rfl ?_
  refine q_pick_bf (v := .bool (!(decide (x_17.2 = m.base)))) rfl rfl d4 rfl ?_
  refine q_move (v := .bool (!(decide (x_17.2 = m.base)))) rfl rfl ?_
  rcases bsplit (!(decide (x_17.2 = m.base))) with h_18 | h_18
  · skip
    have h_19 := unT h_18
    have h_19p := of_decide_eq_false h_19
    exact absurd (eh x_17 (by rw [List.head?_eq_getElem?]; exact hx_17)) (of_decide_eq_false (unT h_18))
  · skip
    have h_20 := unF h_18
    have h_20p := of_decide_eq_true h_20
    refine q_fieldAddr (gff h_18) rfl fl31_4 ?_
    refine q_loadB (gff h_18) rfl pl28 (fk_1.via e1_6 noX) rfl ?_
    refine q_move (v := .int .i64 (en : Int)) (gff h_18) rfl ?_
    refine q_sub (gff h_18) rfl rfl (wi64 (by omega) (by omega)) ?_
    obtain ⟨x_21, hx_21⟩ := Sl.get (xs := m.epochs) he.here (i := (en : Int) - 1) (by omega) (by omega)
    have Ax_21 := Sl.areaAt he (Sl.map_get hx_21)
    refine q_indexS' (gff h_18) rfl rfl el28 (he.here.there (by omega)).1 (by omega) (by omega) ?_
    refine q_fieldAddr (gff h_18) rfl fl61_1 ?_
    refine q_load (gff h_18) rfl pl2 (fun w0 e0 => (Ax_21.via e0_6 noX) w0 e0 1 _ rfl) ?_
    refine q_fieldAddr (gff h_18) rfl fl31_2 ?_
    refine q_loadB (gff h_18) rfl pl2 (fk_1.via e1_6 noX) rfl ?_
    refine q_geq (gff h_18) rfl rfl ?_
    refine q_pick_bf (v := .bool (decide (m.end_ ≤ x_21.2))) rfl rfl h_18 rfl ?_
    refine done ?_
    refine thenN ?_
    refine cond_b rfl (fun h_22 => ?_) (fun h_22 => ?_)
    · skip
      have h_22p := of_decide_eq_true h_22
      exact absurd (ela x_21 (by rw [List.getLast?_eq_getElem?, ← hel, show en - 1 = ((en : Int) - 1).toNat from (by omega)]; exact hx_21)) (by have := of_decide_eq_true h_22; omega)
    · skip
      have h_22p := of_decide_eq_false h_22
      refine wp_skip ?_
      refine thenN ?_
      refine seq ?_
      refine seq ?_
      refine region [true, false, true, true, true, true, false, true, true, true] ?_
      refine q_fieldAddr rfl rfl fl31_5 ?_
      refine l_loadB trivial rfl rfl pl29 (fk_1.now e1_7) rfl ?_
      refine q_len rfl rfl el29 ?_
      refine q_eql rfl rfl rfl ?_
      refine q_move (v := .bool (decide ((on : Int) = 0))) rfl rfl ?_
      refine q_fieldAddr (gff d5) rfl fl31_5 ?_
      refine l_loadB trivial (gff d5) rfl pl29 (fk_1.now e1_7) rfl ?_
      refine q_len (gff d5) rfl el29 ?_
      refine q_gtr (gff d5) rfl rfl ?_
      refine q_pick_bf (v := .bool (decide (8 < (on : Int)))) rfl rfl d5 rfl ?_
      refine done ?_
      refine thenN ?_
      refine cond_bf rfl d6 ?_
      refine wp_skip ?_
      refine thenN ?_
      refine seq ?_
      refine seq ?_
      refine region [true] ?_
      refine q_assign (v := .int .i64 0) rfl rfl ?_
      refine done ?_
      refine thenN ?_
      refine blk ?_
      have y_23 := (fk_1.on e1_7)
      refine loopN [88, 89, 90, 91, 92, 95, 96, 97, 98, 99, 100, 101, 102, 103, 104, 105, 106, 107, 108, 109, 110, 111, 112, 113, 114, 115, 116, 117, 118, 119, 120, 121, 122, 93, 94, 5] (fun k9 R9 wJ => ∃ (j : Nat), R9 = [(5, .int .i64 (j : Int))] ∧ (j ≤ on) ∧ (Evo No w7 wJ) ∧ (Evo No w wJ) ∧ (Blk k_2 [.int .i64 0, .bool false, .int .i64 0] 57 wJ) ∧ k9 = on - j) ⟨_, _, ⟨0, rfl, Nat.zero_le _, Evo.refl _ _, z7, c_15, rfl⟩, ⟨(by kernel_rfl), trivial⟩⟩ (fun k9 R9 u_24 w8 J_25 => ?_)
      obtain ⟨j, rfl, hj, x9j, z9j, m9j_k_2, rfl⟩ := J_25
      have e0_8 : Evo M w w8 := e0_7.trans x9j.no
      have e1_8 : Evo M w1 w8 := e1_7.trans x9j.no
      have exj_8 : Evo M w7 w8 := x9j.no
      have enj_8 : Evo No w7 w8 := x9j
      refine seq ?_
      refine seq ?_
      refine region [true, true, false, true, true] ?_
      refine q_move (v := .int .i64 (j : Int)) rfl rfl ?_
      refine q_fieldAddr rfl rfl fl31_5 ?_
      refine l_loadB trivial rfl rfl pl29 (y_23.now exj_8) rfl ?_
      refine q_len rfl rfl el29 ?_
      refine q_lss rfl rfl rfl ?_
      refine done ?_
      refine thenN ?_
      refine cond_b rfl (fun h_26 => ?_) (fun h_26 => ?_)
      · skip
        have h_26p := of_decide_eq_true h_26
        refine wp_skip ?_
        refine thenN ?_
        refine seq ?_
        refine blk ?_
        refine seq ?_
        refine seq ?_
        refine region [true, false, true, true, true, false, false, true] ?_
        refine q_fieldAddr rfl rfl fl31_5 ?_
        refine l_loadB trivial rfl rfl pl29 (y_23.now exj_8) rfl ?_
        refine q_move (v := .int .i64 (j : Int)) rfl rfl ?_
        obtain ⟨x_27, hx_27⟩ := Sl.get (xs := m.objects) ho.here (i := (j : Int)) (by omega) (by omega)
        have Ax_27 := Sl.areaAt ho (Sl.map_get hx_27)
        refine q_indexS' rfl rfl rfl el29 (ho.here.there (by omega)).1 (by omega) (by omega) ?_
        refine q_fieldAddr rfl rfl fl46_0 ?_
        refine l_load trivial rfl rfl pl9 ((Ax_27.now e0_8) 0 _ rfl) ?_
        refine l_call Keep.any rfl (refName_c w8 (M := No) x_27.name) en71 rfl rfl (fun v_28 w9 s9 q_29 => ?_)
        have e0_9 : Evo M w w9 := e0_8.trans s9.no
        have e1_9 : Evo M w1 w9 := e1_8.trans s9.no
        have exj_9 : Evo M w7 w9 := exj_8.trans s9.no
        have enj_9 : Evo No w7 w9 := enj_8.trans s9.no
        have z9 : Evo No w w9 := z9j.trans s9.no
        have c_30 := m9j_k_2.no s9
        obtain rfl := q_29
        refine q_not rfl rfl ?_
        refine done ?_
        refine thenN ?_
        refine cond_b rfl (fun h_31 => ?_) (fun h_31 => ?_)
        · skip
          have h_32 := unT h_31
          exact absurd ((oa1 x_27 (List.mem_of_getElem? hx_27)).1.symm.trans (unT h_31)) (by simp)
        · skip
          have h_33 := unF h_31
          refine wp_skip ?_
          refine thenN ?_
          refine seq ?_
          refine region [true, false, true, true, true, false, true, true, true, false, true, true, true, false, true, true] ?_
          refine q_fieldAddr rfl rfl fl31_5 ?_
          refine l_loadB trivial rfl rfl pl29 (y_23.now exj_9) rfl ?_
          refine q_move (v := .int .i64 (j : Int)) rfl rfl ?_
          refine q_indexS' rfl rfl rfl el29 (ho.here.there (by omega)).1 (by omega) (by omega) ?_
          refine q_fieldAddr rfl rfl fl46_1 ?_
          refine l_load trivial rfl rfl pl3 ((Ax_27.now e0_9) 1 _ rfl) ?_
          refine q_lss rfl rfl rfl ?_
          refine q_move (v := .bool (decide (x_27.len < 0))) rfl rfl ?_
          rcases bsplit (decide (x_27.len < 0)) with h_34 | h_34
          · skip
            have h_34p := of_decide_eq_true h_34
            exact absurd (of_decide_eq_true h_34) (by have h9 := oa1 x_27 (List.mem_of_getElem? hx_27); omega)
          · skip
            have h_34p := of_decide_eq_false h_34
            refine q_fieldAddr (gff h_34) rfl fl31_5 ?_
            refine l_loadB trivial (gff h_34) rfl pl29 (y_23.now exj_9) rfl ?_
            refine q_move (v := .int .i64 (j : Int)) (gff h_34) rfl ?_
            refine q_indexS' (gff h_34) rfl rfl el29 (ho.here.there (by omega)).1 (by omega) (by omega) ?_
            refine q_fieldAddr (gff h_34) rfl fl46_1 ?_
            refine l_load trivial (gff h_34) rfl pl3 ((Ax_27.now e0_9) 1 _ rfl) ?_
            refine q_gtr (gff h_34) rfl rfl ?_
            refine q_pick_bf (v := .bool (decide (1073741824 < x_27.len))) rfl rfl h_34 rfl ?_
            refine done ?_
            refine thenN ?_
            refine cond_b rfl (fun h_35 => ?_) (fun h_35 => ?_)
            · skip
              have h_35p := of_decide_eq_true h_35
              exact absurd (of_decide_eq_true h_35) (by have h9 := oa1 x_27 (List.mem_of_getElem? hx_27); omega)
            · skip
              have h_35p := of_decide_eq_false h_35
              refine wp_skip ?_
              refine blkN ?_
              refine thenN ?_
              refine region [true, true, true] ?_
              refine q_move (v := .int .i64 (j : Int)) rfl rfl ?_
              refine q_add rfl rfl rfl (wi64 (by omega) (by omega)) ?_
              refine q_assign (v := .int .i64 ((j : Int) + 1)) rfl rfl ?_
              refine done ?_
              refine thenN ?_
              refine ⟨_, _, ?_, ⟨j + 1, rfl, by omega, enj_9, z9, c_30, rfl⟩, Env.near_at 69 (by kernel_rfl) (by kernel_rfl) ⟨(Eq.trans (b := Go.Value.int .i64 ((j : Int) + 1)) (by kernel_rfl) (nextI j)), trivial⟩⟩
              omega
      · skip
        have h_26p := of_decide_eq_false h_26
        refine wp_exit ?_
        refine thenX ?_
        refine thenX ?_
        refine blkX ?_
        refine thenN ?_
        refine seq ?_
        refine seq ?_
        refine region [true] ?_
        refine q_assign (v := .int .i64 0) rfl rfl ?_
        refine done ?_
        refine thenN ?_
        refine blk ?_
        have y_36 := (y_23.on exj_8)
        refine loopN [123, 124, 125, 126, 127, 7, 130, 131, 132, 135, 136, 137, 138, 139, 140, 141, 142, 143, 144, 145, 146, 147, 148, 133, 134, 128, 129, 6] (fun k9 R9 wJ => ∃ (i : Nat), R9 = [(6, .int .i64 (i : Int))] ∧ (i ≤ on) ∧ (Evo No w8 wJ) ∧ (Evo No w wJ) ∧ (Blk k_2 [.int .i64 0, .bool false, .int .i64 0] 57 wJ) ∧ k9 = on - i) ⟨_, _, ⟨0, rfl, Nat.zero_le _, Evo.refl _ _, z9j, m9j_k_2, rfl⟩, ⟨(by kernel_rfl), trivial⟩⟩ (fun k9 R9 u_37 w9 J_38 => ?_)
        obtain ⟨i, rfl, hi, x9i, z9i, m9i_k_2, rfl⟩ := J_38
        have e0_9 : Evo M w w9 := e0_8.trans x9i.no
        have e1_9 : Evo M w1 w9 := e1_8.trans x9i.no
        have exj_9 : Evo M w7 w9 := exj_8.trans x9i.no
        have enj_9 : Evo No w7 w9 := enj_8.trans x9i.no
        have exi_9 : Evo M w8 w9 := x9i.no
        have eni_9 : Evo No w8 w9 := x9i
        refine seq ?_
        refine seq ?_
        refine region [true, true, false, true, true] ?_
        refine q_move (v := .int .i64 (i : Int)) rfl rfl ?_
        refine q_fieldAddr rfl rfl fl31_5 ?_
        refine l_loadB trivial rfl rfl pl29 (y_36.now exi_9) rfl ?_
        refine q_len rfl rfl el29 ?_
        refine q_lss rfl rfl rfl ?_
        refine done ?_
        refine thenN ?_
        refine cond_b rfl (fun h_39 => ?_) (fun h_39 => ?_)
        · skip
          have h_39p := of_decide_eq_true h_39
          refine wp_skip ?_
          refine thenN ?_
          refine seq ?_
          refine blk ?_
          refine seq ?_
          refine region [true] ?_
          refine q_assign (v := .int .i64 0) rfl rfl ?_
          refine done ?_
          refine thenN ?_
          refine blk ?_
          have y_40 := (y_36.on exi_9)
          refine loopN [130, 131, 132, 135, 136, 137, 138, 139, 140, 141, 142, 143, 144, 145, 146, 147, 148, 133, 134, 7] (fun k9 R9 wJ => ∃ (q : Nat), R9 = [(7, .int .i64 (q : Int))] ∧ (q ≤ i) ∧ (Evo No w9 wJ) ∧ (Evo No w wJ) ∧ (Blk k_2 [.int .i64 0, .bool false, .int .i64 0] 57 wJ) ∧ k9 = i - q) ⟨_, _, ⟨0, rfl, Nat.zero_le _, Evo.refl _ _, z9i, m9i_k_2, rfl⟩, ⟨(by kernel_rfl), trivial⟩⟩ (fun k9 R9 u_41 w10 J_42 => ?_)
          obtain ⟨q, rfl, hq, x9q, z9q, m9q_k_2, rfl⟩ := J_42
          have e0_10 : Evo M w w10 := e0_9.trans x9q.no
          have e1_10 : Evo M w1 w10 := e1_9.trans x9q.no
          have exj_10 : Evo M w7 w10 := exj_9.trans x9q.no
          have enj_10 : Evo No w7 w10 := enj_9.trans x9q.no
          have exi_10 : Evo M w8 w10 := exi_9.trans x9q.no
          have eni_10 : Evo No w8 w10 := eni_9.trans x9q.no
          have exq_10 : Evo M w9 w10 := x9q.no
          have enq_10 : Evo No w9 w10 := x9q
          refine seq ?_
          refine seq ?_
          refine region [true, true, true] ?_
          refine q_move (v := .int .i64 (q : Int)) rfl rfl ?_
          refine q_move (v := .int .i64 (i : Int)) rfl rfl ?_
          refine q_lss rfl rfl rfl ?_
          refine done ?_
          refine thenN ?_
          refine cond_b rfl (fun h_43 => ?_) (fun h_43 => ?_)
          · skip
            have h_43p := of_decide_eq_true h_43
            refine wp_skip ?_
            refine thenN ?_
            refine seq ?_
            refine blk ?_
            refine seq ?_
            refine regionD No (.q 0 (.q 1 (.q 2 (.q 3 (.q 4 (.q 5 (.q 6 (.q 7 (.q 8 (.q 9 (.q 10 (.q 11 (.q 12 (.nil)))))))))))))) mixed (by kernel_rfl) (by kernel_rfl) (by kernel_rfl) (fun w11 s11 => ?_)
            have e0_11 : Evo M w w11 := e0_10.trans s11.no
            have e1_11 : Evo M w1 w11 := e1_10.trans s11.no
            have exj_11 : Evo M w7 w11 := exj_10.trans s11.no
            have enj_11 : Evo No w7 w11 := enj_10.trans s11.no
            have exi_11 : Evo M w8 w11 := exi_10.trans s11.no
            have eni_11 : Evo No w8 w11 := eni_10.trans s11.no
            have exq_11 : Evo M w9 w11 := exq_10.trans s11.no
            have enq_11 : Evo No w9 w11 := enq_10.trans s11.no
            have z11 : Evo No w w11 := z9q.trans s11.no
            have c_44 := m9q_k_2.no s11
            have rgr_45_11 : Evo No w10 w11 := s11.no
            refine q_fieldAddr rfl rfl fl31_5 ?_
            refine q_loadB rfl rfl pl29 (y_40.via exq_10 noX) rfl ?_
            refine q_move (v := .int .i64 (i : Int)) rfl rfl ?_
            obtain ⟨x_46, hx_46⟩ := Sl.get (xs := m.objects) ho.here (i := (i : Int)) (by omega) (by omega)
            have Ax_46 := Sl.areaAt ho (Sl.map_get hx_46)
            refine q_indexS' rfl rfl rfl el29 (ho.here.there (by omega)).1 (by omega) (by omega) ?_
            refine q_fieldAddr rfl rfl fl46_0 ?_
            refine q_load rfl rfl pl9 (fun w0 e0 => (Ax_46.via e0_10 noX) w0 e0 0 _ rfl) ?_
            refine q_fieldAddr rfl rfl fl31_5 ?_
            refine q_loadB rfl rfl pl29 (y_40.via exq_10 noX) rfl ?_
            refine q_move (v := .int .i64 (q : Int)) rfl rfl ?_
            obtain ⟨x_47, hx_47⟩ := Sl.get (xs := m.objects) ho.here (i := (q : Int)) (by omega) (by omega)
            have Ax_47 := Sl.areaAt ho (Sl.map_get hx_47)
            refine q_indexS' rfl rfl rfl el29 (ho.here.there (by omega)).1 (by omega) (by omega) ?_
            refine q_fieldAddr rfl rfl fl46_0 ?_
            refine q_load rfl rfl pl9 (fun w0 e0 => (Ax_47.via e0_10 noX) w0 e0 0 _ rfl) ?_
            refine q_strEql rfl rfl rfl ?_
            refine done ?_
            refine thenN ?_
            refine cond_b rfl (fun h_48 => ?_) (fun h_48 => ?_)
            · skip
              have h_48p := of_decide_eq_true h_48
              exact absurd (of_decide_eq_true h_48).symm (od q i x_47 x_46 (by omega) hx_47 hx_46)
            · skip
              have h_48p := of_decide_eq_false h_48
              refine wp_skip ?_
              refine blkN ?_
              refine thenN ?_
              refine region [true, true, true] ?_
              refine q_move (v := .int .i64 (q : Int)) rfl rfl ?_
              refine q_add rfl rfl rfl (wi64 (by omega) (by omega)) ?_
              refine q_assign (v := .int .i64 ((q : Int) + 1)) rfl rfl ?_
              refine done ?_
              refine thenN ?_
              refine ⟨_, _, ?_, ⟨q + 1, rfl, by omega, enq_11, z11, c_44, rfl⟩, Env.near_at 40 (by kernel_rfl) (by kernel_rfl) ⟨(Eq.trans (b := Go.Value.int .i64 ((q : Int) + 1)) (by kernel_rfl) (nextI q)), trivial⟩⟩
              omega
          · skip
            have h_43p := of_decide_eq_false h_43
            refine wp_exit ?_
            refine thenX ?_
            refine thenX ?_
            refine blkX ?_
            refine blkN ?_
            refine thenN ?_
            refine region [true, true, true] ?_
            refine q_move (v := .int .i64 (i : Int)) rfl rfl ?_
            refine q_add rfl rfl rfl (wi64 (by omega) (by omega)) ?_
            refine q_assign (v := .int .i64 ((i : Int) + 1)) rfl rfl ?_
            refine done ?_
            refine thenN ?_
            refine ⟨_, _, ?_, ⟨i + 1, rfl, by omega, eni_10, z9q, m9q_k_2, rfl⟩, Env.near_at 62 (by kernel_rfl) (by kernel_rfl) ⟨(Eq.trans (b := Go.Value.int .i64 ((i : Int) + 1)) (by kernel_rfl) (nextI i)), trivial⟩⟩
            omega
        · skip
          have h_39p := of_decide_eq_false h_39
          refine wp_exit ?_
          refine thenX ?_
          refine thenX ?_
          refine blkX ?_
          refine thenN ?_
          refine seq ?_
          refine region [false, false] ?_
          refine l_call Keep.any rfl (none_c w9 (M := No) (Old.no _)) en44 rfl rfl (fun v_49 w10 s10 q_50 => ?_)
          have e0_10 : Evo M w w10 := e0_9.trans s10.no
          have e1_10 : Evo M w1 w10 := e1_9.trans s10.no
          have exj_10 : Evo M w7 w10 := exj_9.trans s10.no
          have enj_10 : Evo No w7 w10 := enj_9.trans s10.no
          have exi_10 : Evo M w8 w10 := exi_9.trans s10.no
          have eni_10 : Evo No w8 w10 := eni_9.trans s10.no
          have z10 : Evo No w w10 := z9i.trans s10.no
          have c_51 := m9i_k_2.no s10
          obtain rfl := q_50
          refine l_store Keep.any rfl rfl c_51 rfl sz57 rfl (Nat.le_of_ble_eq_true rfl) rfl (cs' := [.int .i64 0, .bool false, .int .i64 0]) rfl (fun w11 s11 c_52 => ?_)
          have e0_11 : Evo M w w11 := e0_10.fresh s11 lk_2_0
          have e1_11 : Evo M w1 w11 := e1_10.fresh s11 lk_2_1
          have z11 : Evo No w w11 := z10.fresh s11 lk_2_w
          refine done ?_
          refine thenN ?_
          refine wp_ret ?_
          refine retCell (Q := fun _ _ _ => True) rfl rfl ag57 c_52 rfl ?_
          exact ⟨z11, rfl⟩
end Go.Proofs.YtnkafkikjcgogaaDoor
