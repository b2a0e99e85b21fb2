import Derived.Test.YtnkafkikjcgogaaDoorSxg
import Derived.Test.YtnkafkikjcgogaaDoorProg
import Derived.Test.YtnkafkikjcgogaaDoorLmod
import Derived.Test.YtnkafkikjcgogaaDoorVw4
import Derived.Test.YtnkafkikjcgogaaDoorVw8
/- Closed facts on the translation. -/
set_option maxRecDepth 100000
set_option linter.unusedVariables false
set_option linter.unusedSimpArgs false
namespace Go.Proofs.YtnkafkikjcgogaaDoor.F9
open Go.Sx
theorem mixed : Tryd.prog.follows .mixedOrders = true := by kernel_rfl
theorem ag37 : aggB Tryd.prog 37 = some 7 := by kernel_rfl
theorem en10 : entB Tryd.prog 10 = true := by kernel_rfl
theorem en11 : entB Tryd.prog 11 = true := by kernel_rfl
theorem en12 : entB Tryd.prog 12 = true := by kernel_rfl
theorem en7 : entB Tryd.prog 7 = true := by kernel_rfl
theorem if34 : ifaceB Tryd.prog 34 = true := by kernel_rfl
theorem pt24 : ptrB Tryd.prog 24 = some 1 := by kernel_rfl
theorem sz37 : szB Tryd.prog 37 = some 7 := by kernel_rfl
theorem ze37 : zeroB Tryd.prog 37 = some [.int .i64 0, .int .i64 0, .int .i64 0, .int .i64 0, .int .i64 0, .slice none 0 0, .slice none 0 0] := by kernel_rfl
end Go.Proofs.YtnkafkikjcgogaaDoor.F9

set_option linter.unusedVariables false
set_option linter.unusedSimpArgs false
set_option maxRecDepth 4000
set_option maxHeartbeats 2000000
namespace Go.Proofs.YtnkafkikjcgogaaDoor
open Go.Sx F9

theorem first_c {M : Nat → Prop} (w : World) (hM : Old M w) (bl : Nat → Addr) (hG : At M w (Gl bl)) :
    Calls Tryd.prog 6 (List.toArray []) w (Ret No w fun v _ => v = .bool true) := by
  refine enter (n := 20) [] Tryd.func6 rfl (by kernel_rfl) ?_
  refine seq ?_
  refine region [true] ?_
  refine q_assign (v := .bool false) rfl rfl ?_
  refine done ?_
  refine thenN ?_
  refine seq ?_
  refine region [false, true] ?_
  refine l_call Keep.any rfl (vNew_c (M := M) w hM) en7 rfl rfl (fun v_2 w1 s1 q_3 => ?_)
  have e0_1 : Evo M w w1 := s1.no
  have z1 : Evo No w w1 := s1.no
  obtain ⟨bvn_1, bmn_1, rfl, hbn_1, Vn_1, oVn_1⟩ := q_3
  have lbmn_1_0 : w.heap.size ≤ bmn_1 := Nat.le_trans (Evo.refl M _).size hbn_1
  have lbmn_1_w : w.heap.size ≤ bmn_1 := hbn_1
  refine q_assign (v := .pointer (some ⟨bvn_1, 0, none⟩)) rfl rfl ?_
  refine done ?_
  refine thenN ?_
  refine seq ?_
  refine region [false, true, false, false] ?_
  refine l_call Keep.any rfl (one_c (M := (Plus M bmn_1)) w1 oVn_1 0 0 (by omega) (by omega) (by omega) (by omega)) en10 rfl rfl (fun v_7 w2 s2 q_8 => ?_)
  have e0_2 : Evo M w w2 := e0_1.trans s2.no
  have e1_2 : Evo (Plus M bmn_1) w1 w2 := s2.no
  have z2 : Evo No w w2 := z1.trans s2.no
  have V_9 := Vn_1.no s2
  obtain ⟨cs_4, rfl, hC_5⟩ := q_8
  obtain ⟨eam_6, enm_6, ecm_6, oam_6, onm_6, ocm_6, rfl, eNm_6, oNm_6, hem_6, hom_6⟩ := Mrd.open hC_5
  have olm_6 : onm_6 = 2 := hom_6.here.len
  refine q_build (.agg (List.toArray [.int .i64 1, .int .i64 0, .int .i64 0, .int .i64 (0 + 5), .int .i64 0, .slice eam_6 enm_6 ecm_6, .slice oam_6 onm_6 ocm_6])) rfl rfl (fun _ => by kernel_rfl) ?_
  refine l_alloc (M := (Plus M bmn_1)) Keep.any (oVn_1.on e1_2) rfl ze37 (fun k_10 w3 s3 ck_10 nk_10 ok_10 => ?_)
  have lk_10_0 : w.heap.size ≤ k_10 := Nat.le_trans e0_2.size nk_10
  have lk_10_1 : w1.heap.size ≤ k_10 := Nat.le_trans e1_2.size nk_10
  have lk_10_2 : w2.heap.size ≤ k_10 := Nat.le_trans (Evo.refl (Plus M bmn_1) _).size nk_10
  have lk_10_w : w.heap.size ≤ k_10 := Nat.le_trans z2.size nk_10
  have hvk_10 := V_9.lt
  have hwk_10 : bmn_1 < k_10 := Nat.lt_of_lt_of_le hvk_10 nk_10
  have e0_3 : Evo M w w3 := e0_2.trans s3.no
  have e1_3 : Evo (Plus M bmn_1) w1 w3 := e1_2.trans s3.no
  have e2_3 : Evo (Plus M bmn_1) w2 w3 := s3.no
  have z3 : Evo No w w3 := z2.trans s3.no
  have V_11 := V_9.no s3
  have hlk_10 := ck_10.lt
  have V_12 := V_9.grow s3 nk_10
  refine l_store Keep.any rfl rfl ck_10 rfl sz37 rfl (Nat.le_of_ble_eq_true rfl) rfl (cs' := [.int .i64 1, .int .i64 0, .int .i64 0, .int .i64 (0 + 5), .int .i64 0, .slice eam_6 enm_6 ecm_6, .slice oam_6 onm_6 ocm_6]) rfl (fun w4 s4 c_13 => ?_)
  have e0_4 : Evo M w w4 := e0_3.fresh s4 lk_10_0
  have e1_4 : Evo (Plus M bmn_1) w1 w4 := e1_3.fresh s4 lk_10_1
  have e2_4 : Evo (Plus M bmn_1) w2 w4 := e2_3.fresh s4 lk_10_2
  have e3_4 : Evo (Plus (Plus M bmn_1) k_10) w3 w4 := (Evo.refl (Plus (Plus M bmn_1) k_10) _).fstep s4 (inX Plus.in)
  have z4 : Evo No w w4 := z3.fresh s4 lk_10_w
  have V_14 := V_12.on s4 (by omega) (inX Plus.in)
  refine done ?_
  refine thenN ?_
  refine seq ?_
  refine region [true, true, true, true, false, false, true, true, true, true, false, false, false, true, true] ?_
  refine q_move (v := .pointer (some ⟨bvn_1, 0, none⟩)) rfl rfl ?_
  refine q_ptrNilNe rfl rfl pt24 ?_
  refine q_move (v := .bool true) rfl rfl ?_
  refine q_move (v := .pointer (some ⟨bvn_1, 0, none⟩)) rfl rfl ?_
  refine l_loadBN ([.int .i64 1, .int .i64 0, .int .i64 0, .int .i64 (0 + 5), .int .i64 0, .slice eam_6 enm_6 ecm_6, .slice oam_6 onm_6 ocm_6]) trivial rfl rfl ag37 rfl c_13 rfl ?_
  refine l_call Keep.any rfl (vApply_c (M := (Plus (Plus M bmn_1) k_10)) w4 (ok_10.on e3_4) bl (At.up (N := (Plus (Plus M bmn_1) k_10)) hG e0_4 (fun x0 h1 h0 => by rcases h0 with ((h0 | h0) | h0) <;> first | exact h0 | omega)) bvn_1 bmn_1 ([]) V_14 1 (oneM 0 0) _ _ _ _ _ _ (At.up (N := (Plus (Plus M bmn_1) k_10)) hem_6 e2_4 (fun x0 h1 h0 => by rcases h0 with (h0 | h0) <;> first | exact h0 | omega)) (At.up (N := (Plus (Plus M bmn_1) k_10)) hom_6 e2_4 (fun x0 h1 h0 => by rcases h0 with (h0 | h0) <;> first | exact h0 | omega)) eNm_6 oNm_6) en11 rfl rfl (fun v_16 w5 s5 q_17 => ?_)
  have e0_5 : Evo M w w5 := e0_4.fresh s5 lbmn_1_0
  have e1_5 : Evo (Plus M bmn_1) w1 w5 := e1_4.fstep s5 (inX Plus.in)
  have e2_5 : Evo (Plus M bmn_1) w2 w5 := e2_4.fstep s5 (inX Plus.in)
  have e3_5 : Evo (Plus (Plus M bmn_1) k_10) w3 w5 := e3_4.fstep s5 (inX (Plus.old Plus.in))
  have z5 : Evo No w w5 := z4.fresh s5 lbmn_1_w
  have c_18 := c_13.on s5 (by first | omega | (intro h0; subst h0; omega))
  obtain ⟨E_15, V_20⟩ := q_17
  rcases ErIs.cases E_15.here with ⟨h_21, rfl⟩ | ⟨h_21, t_22, u_23, rfl⟩
  · skip
    refine q_nilEql rfl rfl if34 ?_
    refine q_pick_t (v := .bool true) rfl rfl rfl ?_
    refine q_move (v := .bool true) rfl rfl ?_
    refine q_move (v := .pointer (some ⟨bvn_1, 0, none⟩)) rfl rfl ?_
    refine l_loadBN ([.int .i64 1, .int .i64 0, .int .i64 0, .int .i64 (0 + 5), .int .i64 0, .slice eam_6 enm_6 ecm_6, .slice oam_6 onm_6 ocm_6]) trivial rfl rfl ag37 rfl c_18 rfl ?_
    refine l_call Keep.any rfl (vApply_c (M := (Plus (Plus M bmn_1) k_10)) w5 (ok_10.on e3_5) bl (At.up (N := (Plus (Plus M bmn_1) k_10)) hG e0_5 (fun x0 h1 h0 => by rcases h0 with ((h0 | h0) | h0) <;> first | exact h0 | omega)) bvn_1 bmn_1 (applyV ([]) 1 (oneM 0 0)) V_20 1 (oneM 0 0) _ _ _ _ _ _ (At.up (N := (Plus (Plus M bmn_1) k_10)) hem_6 e2_5 (fun x0 h1 h0 => by rcases h0 with (h0 | h0) <;> first | exact h0 | omega)) (At.up (N := (Plus (Plus M bmn_1) k_10)) hom_6 e2_5 (fun x0 h1 h0 => by rcases h0 with (h0 | h0) <;> first | exact h0 | omega)) eNm_6 oNm_6) en11 rfl rfl (fun v_25 w6 s6 q_26 => ?_)
    have e0_6 : Evo M w w6 := e0_5.fresh s6 lbmn_1_0
    have e1_6 : Evo (Plus M bmn_1) w1 w6 := e1_5.fstep s6 (inX Plus.in)
    have e2_6 : Evo (Plus M bmn_1) w2 w6 := e2_5.fstep s6 (inX Plus.in)
    have e3_6 : Evo (Plus (Plus M bmn_1) k_10) w3 w6 := e3_5.fstep s6 (inX (Plus.old Plus.in))
    have e5_6 : Evo (Plus (Plus M bmn_1) k_10) w5 w6 := (Evo.refl (Plus (Plus M bmn_1) k_10) _).fstep s6 (inX (Plus.old Plus.in))
    have z6 : Evo No w w6 := z5.fresh s6 lbmn_1_w
    have c_27 := c_18.on s6 (by first | omega | (intro h0; subst h0; omega))
    obtain ⟨E_24, V_29⟩ := q_26
    refine l_call Keep.any rfl (seeIs_c (M := (Plus (Plus M bmn_1) k_10)) w6 (ok_10.on e3_6) bl (At.up (N := (Plus (Plus M bmn_1) k_10)) hG e0_6 (fun x0 h1 h0 => by rcases h0 with ((h0 | h0) | h0) <;> first | exact h0 | omega)) (applyErr (applyV ([]) 1 (oneM 0 0)) 1 (oneM 0 0)) (v_25) (E_24.on (Evo.refl (Plus (Plus M bmn_1) k_10) _)) (applyErr_small _ _ _) 113) en12 rfl rfl (fun v_30 w7 s7 q_31 => ?_)
    have e0_7 : Evo M w w7 := e0_6.trans s7.no
    have e1_7 : Evo (Plus M bmn_1) w1 w7 := e1_6.trans s7.no
    have e2_7 : Evo (Plus M bmn_1) w2 w7 := e2_6.trans s7.no
    have e3_7 : Evo (Plus (Plus M bmn_1) k_10) w3 w7 := e3_6.trans s7.no
    have e5_7 : Evo (Plus (Plus M bmn_1) k_10) w5 w7 := e5_6.trans s7.no
    have e6_7 : Evo (Plus (Plus M bmn_1) k_10) w6 w7 := s7.no
    have z7 : Evo No w w7 := z6.trans s7.no
    have c_32 := c_27.no s7
    have V_33 := V_29.no s7
    obtain rfl := q_31
    refine q_pick_t (v := .bool (isF (applyErr (applyV ([]) 1 (oneM 0 0)) 1 (oneM 0 0)) 113)) rfl rfl rfl ?_
    refine q_assign (v := .bool (isF (applyErr (applyV ([]) 1 (oneM 0 0)) 1 (oneM 0 0)) 113)) rfl rfl ?_
    refine done ?_
    refine thenN ?_
    refine wp_ret ?_
    refine ret1v (.bool (isF (applyErr (applyV ([]) 1 (oneM 0 0)) 1 (oneM 0 0)) 113)) rfl rfl ?_
    exact ⟨z7, by rw [first2]⟩
  · skip
    exact absurd first1 h_21
end Go.Proofs.YtnkafkikjcgogaaDoor
