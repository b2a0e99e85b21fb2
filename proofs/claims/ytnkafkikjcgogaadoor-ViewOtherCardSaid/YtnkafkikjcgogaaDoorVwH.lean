import Derived.Test.YtnkafkikjcgogaaDoorSxj
import Derived.Test.YtnkafkikjcgogaaDoorProg
import Derived.Test.YtnkafkikjcgogaaDoorDmod
import Derived.Test.YtnkafkikjcgogaaDoorVw9
import Derived.Test.YtnkafkikjcgogaaDoorVwA
import Derived.Test.YtnkafkikjcgogaaDoorVwF
import Derived.Test.YtnkafkikjcgogaaDoorVwG
/- Closed facts on the translation. -/
set_option maxRecDepth 100000
set_option linter.unusedVariables false
set_option linter.unusedSimpArgs false
namespace Go.Proofs.YtnkafkikjcgogaaDoor.FH
open Go.Sx
theorem mixed : Tryd.prog.follows .mixedOrders = true := by kernel_rfl
theorem ag31 : aggB Tryd.prog 31 = some 6 := by kernel_rfl
theorem el28 : elemB Tryd.prog 28 = some (61, 2) := by kernel_rfl
theorem el29 : elemB Tryd.prog 29 = some (46, 3) := by kernel_rfl
theorem en11 : entB Tryd.prog 11 = true := by kernel_rfl
theorem en14 : entB Tryd.prog 14 = true := by kernel_rfl
theorem en16 : entB Tryd.prog 16 = true := by kernel_rfl
theorem en17 : entB Tryd.prog 17 = true := by kernel_rfl
theorem en18 : entB Tryd.prog 18 = true := by kernel_rfl
theorem en19 : entB Tryd.prog 19 = true := by kernel_rfl
theorem en6 : entB Tryd.prog 6 = true := by kernel_rfl
theorem en7 : entB Tryd.prog 7 = true := by kernel_rfl
theorem en9 : entB Tryd.prog 9 = true := by kernel_rfl
theorem fl31_0 : fldB Tryd.prog 31 0 = some 0 := by kernel_rfl
theorem fl31_3 : fldB Tryd.prog 31 3 = some 3 := by kernel_rfl
theorem fl31_4 : fldB Tryd.prog 31 4 = some 4 := by kernel_rfl
theorem fl31_5 : fldB Tryd.prog 31 5 = some 5 := by kernel_rfl
theorem fl46_1 : fldB Tryd.prog 46 1 = some 1 := by kernel_rfl
theorem fl46_2 : fldB Tryd.prog 46 2 = some 2 := by kernel_rfl
theorem if34 : ifaceB Tryd.prog 34 = true := by kernel_rfl
theorem pl2 : plainB Tryd.prog 2 = true := by kernel_rfl
theorem pl28 : plainB Tryd.prog 28 = true := by kernel_rfl
theorem pl29 : plainB Tryd.prog 29 = true := by kernel_rfl
theorem pl3 : plainB Tryd.prog 3 = true := by kernel_rfl
theorem pl44 : plainB Tryd.prog 44 = true := by kernel_rfl
theorem pt24 : ptrB Tryd.prog 24 = some 1 := by kernel_rfl
theorem sz2 : szB Tryd.prog 2 = some 1 := by kernel_rfl
theorem sz3 : szB Tryd.prog 3 = some 1 := by kernel_rfl
theorem sz31 : szB Tryd.prog 31 = some 6 := by kernel_rfl
theorem sz44 : szB Tryd.prog 44 = some 1 := by kernel_rfl
theorem ze31 : zeroB Tryd.prog 31 = some [.int .i64 0, .int .i64 0, .int .i64 0, .int .i64 0, .slice none 0 0, .slice none 0 0] := by kernel_rfl
end Go.Proofs.YtnkafkikjcgogaaDoor.FH

set_option linter.unusedVariables false
set_option linter.unusedSimpArgs false
set_option maxRecDepth 4000
set_option maxHeartbeats 2000000
namespace Go.Proofs.YtnkafkikjcgogaaDoor
open Go.Sx FH

theorem viewOther_c {M : Nat → Prop} (w : World) (hM : Old M w) (bl : Nat → Addr) (hG : At M w (Gl bl)) (m : Mani) (ea : Option Addr) (en ec : Nat) (oa : Option Addr) (on oc : Nat) (he : At M w (Sl 2 (m.epochs.map encP) ea en ec)) (ho : At M w (Sl 3 (m.objects.map encO) oa on oc)) (kind what : Int) (hk0 : -9223372036854775808 ≤ kind) (hk1 : kind ≤ 9223372036854775807) (hw0 : -9223372036854775808 ≤ what) (hw1 : what ≤ 9223372036854775807) :
    Calls Tryd.prog 5 (List.toArray [.agg (List.toArray [.int .i64 m.id, .int .i64 m.base, .int .i64 m.end_, .int .i64 m.time, .slice ea en ec, .slice oa on oc]), .int .i64 kind, .int .i64 what]) w (Ret No w fun v _ => v = .bool true) := by
  refine enter (n := 107) [(0, .agg (List.toArray [.int .i64 m.id, .int .i64 m.base, .int .i64 m.end_, .int .i64 m.time, .slice ea en ec, .slice oa on oc])), (1, .int .i64 kind), (2, .int .i64 what)] Tryd.func5 rfl (by kernel_rfl) ?_
  refine seq ?_
  refine region [false, true] ?_
  refine l_box (M := M) Keep.any hM rfl rfl (fun k_1 w1 s1 fk_1 nk_1 => ?_)
  have e0_1 : Evo M w w1 := s1.no
  have z1 : Evo No w w1 := s1.no
  refine q_assign (v := .bool false) rfl rfl ?_
  refine done ?_
  refine thenN ?_
  refine seq ?_
  refine region [false, true] ?_
  refine l_call Keep.any rfl (first_c (M := M) w1 (hM.on z1) bl (hG.on e0_1)) en6 rfl rfl (fun v_2 w2 s2 q_3 => ?_)
  have e0_2 : Evo M w w2 := e0_1.trans s2.no
  have e1_2 : Evo M w1 w2 := s2.no
  have z2 : Evo No w w2 := z1.trans s2.no
  obtain rfl := q_3
  refine q_assign (v := .bool true) rfl rfl ?_
  refine done ?_
  refine thenN ?_
  refine seq ?_
  refine seq ?_
  refine region [true, true] ?_
  refine q_move (v := .bool true) rfl rfl ?_
  refine q_not rfl rfl ?_
  refine done ?_
  refine thenN ?_
  refine cond_f rfl ?_
  refine wp_skip ?_
  refine thenN ?_
  refine seq ?_
  refine seq ?_
  refine region [false, false, true, true, true, false, true, true, true, true, true, true, true] ?_
  refine l_loadBN ([.int .i64 m.id, .int .i64 m.base, .int .i64 m.end_, .int .i64 m.time, .slice ea en ec, .slice oa on oc]) trivial rfl rfl ag31 rfl (fk_1.now e1_2) rfl ?_
  refine l_call Keep.any rfl (worldMani_c (M := M) w2 (hM.on z2) m _ _ _ _ _ _ (he.on e0_2) (ho.on e0_2)) en16 rfl rfl (fun v_4 w3 s3 q_5 => ?_)
  have e0_3 : Evo M w w3 := e0_2.trans s3.no
  have e1_3 : Evo M w1 w3 := e1_2.trans s3.no
  have z3 : Evo No w w3 := z2.trans s3.no
  obtain ⟨b9, rfl, hw9⟩ := q_5
  refine q_not rfl rfl ?_
  refine q_move (v := .bool (!(b9))) rfl rfl ?_
  rcases bsplit (!(b9)) with h_6 | h_6
  · skip
    have h_7 := unT h_6
    refine q_no (gtf h_6) ?_
    refine l_no (gtf h_6) ?_
    refine q_no (gtf h_6) ?_
    refine q_no (gtf h_6) ?_
    refine q_pick_bt (v := .bool true) rfl rfl h_6 rfl ?_
    refine q_move (v := .bool true) rfl rfl ?_
    refine q_no rfl ?_
    refine q_no rfl ?_
    refine q_pick_t (v := .bool true) rfl rfl rfl ?_
    refine done ?_
    refine thenN ?_
    refine cond_t rfl ?_
    refine seq ?_
    refine region [true, true] ?_
    refine q_move (v := .bool true) rfl rfl ?_
    refine q_assign (v := .bool true) rfl rfl ?_
    refine done ?_
    refine thenN ?_
    refine wp_ret ?_
    refine thenR ?_
    refine ret1v (.bool true) rfl rfl ?_
    exact ⟨z3, rfl⟩
  · skip
    have h_8 := unF h_6
    refine q_fieldAddr (gff h_6) rfl fl31_4 ?_
    refine l_loadB trivial (gff h_6) rfl pl28 (fk_1.now e1_3) rfl ?_
    refine q_len (gff h_6) rfl el28 ?_
    refine q_gtr (gff h_6) rfl rfl ?_
    refine q_pick_bf (v := .bool (decide (30 < (en : Int)))) rfl rfl h_6 rfl ?_
    refine q_move (v := .bool (decide (30 < (en : Int)))) rfl rfl ?_
    rcases bsplit (decide (30 < (en : Int))) with h_9 | h_9
    · skip
      have h_9p := of_decide_eq_true h_9
      refine q_no (gtf h_9) ?_
      refine q_no (gtf h_9) ?_
      refine q_pick_bt (v := .bool true) rfl rfl h_9 rfl ?_
      refine done ?_
      refine thenN ?_
      refine cond_t rfl ?_
      refine seq ?_
      refine region [true, true] ?_
      refine q_move (v := .bool true) rfl rfl ?_
      refine q_assign (v := .bool true) rfl rfl ?_
      refine done ?_
      refine thenN ?_
      refine wp_ret ?_
      refine thenR ?_
      refine ret1v (.bool true) rfl rfl ?_
      exact ⟨z3, rfl⟩
    · skip
      have h_9p := of_decide_eq_false h_9
      refine q_move (v := .bool true) (gff h_9) rfl ?_
      refine q_not (gff h_9) rfl ?_
      refine q_pick_bf (v := .bool false) rfl rfl h_9 rfl ?_
      refine done ?_
      refine thenN ?_
      refine cond_f rfl ?_
      refine wp_skip ?_
      refine thenN ?_
      refine seq ?_
      refine region [false, true] ?_
      have hw8 := hw9 h_8
      refine l_call Keep.any rfl (vNew_c (M := M) w3 (hM.on z3)) en7 rfl rfl (fun v_11 w4 s4 q_12 => ?_)
      have e0_4 : Evo M w w4 := e0_3.trans s4.no
      have e1_4 : Evo M w1 w4 := e1_3.trans s4.no
      have z4 : Evo No w w4 := z3.trans s4.no
      obtain ⟨bvn_10, bmn_10, rfl, hbn_10, Vn_10, oVn_10⟩ := q_12
      have lbmn_10_0 : w.heap.size ≤ bmn_10 := Nat.le_trans e0_3.size hbn_10
      have lbmn_10_1 : w1.heap.size ≤ bmn_10 := Nat.le_trans e1_3.size hbn_10
      have lbmn_10_w : w.heap.size ≤ bmn_10 := Nat.le_trans z3.size hbn_10
      refine q_assign (v := .pointer (some ⟨bvn_10, 0, none⟩)) rfl rfl ?_
      refine done ?_
      refine thenN ?_
      refine seq ?_
      refine seq ?_
      refine region [true, true, true, true, false, true, false, true, true] ?_
      refine q_move (v := .pointer (some ⟨bvn_10, 0, none⟩)) rfl rfl ?_
      refine q_ptrNil rfl rfl pt24 ?_
      refine q_move (v := .bool false) rfl rfl ?_
      refine q_move (v := .pointer (some ⟨bvn_10, 0, none⟩)) rfl rfl ?_
      refine l_loadBN ([.int .i64 m.id, .int .i64 m.base, .int .i64 m.end_, .int .i64 m.time, .slice ea en ec, .slice oa on oc]) trivial rfl rfl ag31 rfl (fk_1.now e1_4) rfl ?_
      refine q_build (.agg (List.toArray [.int .i64 1, .int .i64 m.id, .int .i64 m.base, .int .i64 m.end_, .int .i64 m.time, .slice ea en ec, .slice oa on oc])) rfl rfl (fun _ => by kernel_rfl) ?_
      refine l_call Keep.any rfl (vApply_c (M := (Plus M bmn_10)) w4 oVn_10 bl (At.up (N := (Plus M bmn_10)) hG e0_4 (fun x0 h1 h0 => by rcases h0 with (h0 | h0) <;> first | exact h0 | omega)) bvn_10 bmn_10 ([]) Vn_10 1 m _ _ _ _ _ _ (At.up (N := (Plus M bmn_10)) he e0_4 (fun x0 h1 h0 => by rcases h0 with (h0 | h0) <;> first | exact h0 | omega)) (At.up (N := (Plus M bmn_10)) ho e0_4 (fun x0 h1 h0 => by rcases h0 with (h0 | h0) <;> first | exact h0 | omega)) (by omega) (by omega)) en11 rfl rfl (fun v_14 w5 s5 q_15 => ?_)
      have e0_5 : Evo M w w5 := e0_4.fresh s5 lbmn_10_0
      have e1_5 : Evo M w1 w5 := e1_4.fresh s5 lbmn_10_1
      have e4_5 : Evo (Plus M bmn_10) w4 w5 := (Evo.refl (Plus M bmn_10) _).fstep s5 (inX Plus.in)
      have z5 : Evo No w w5 := z4.fresh s5 lbmn_10_w
      obtain ⟨E_13, V_17⟩ := q_15
      rcases ErIs.cases E_13.here with ⟨h_18, rfl⟩ | ⟨h_18, t_19, u_20, rfl⟩
      · skip
        have A1 := apply_first h_18
        have OK1 := maniOk A1.1
        have V8 := V_17; rw [A1.2] at V8
        have hol1 := OK1.olen0; have hol := ho.here.len; rw [List.length_map] at hol
        obtain ⟨ob, hob⟩ : ∃ ob, m.objects[0]? = some ob := ⟨_, List.getElem?_eq_getElem (by omega)⟩
        refine q_nilNeq rfl rfl if34 ?_
        refine q_pick_f (v := .bool false) rfl rfl rfl ?_
        refine done ?_
        refine thenN ?_
        refine cond_f rfl ?_
        refine wp_skip ?_
        refine thenN ?_
        refine seq ?_
        refine region [false, false, false, false] ?_
        refine l_loadBN ([.int .i64 m.id, .int .i64 m.base, .int .i64 m.end_, .int .i64 m.time, .slice ea en ec, .slice oa on oc]) trivial rfl rfl ag31 rfl (fk_1.now e1_5) rfl ?_
        refine l_call Keep.any rfl (refMani_c (M := (Plus M bmn_10)) w5 (oVn_10.on e4_5) m _ _ _ _ _ _ (At.up (N := (Plus M bmn_10)) he e0_5 (fun x0 h1 h0 => by rcases h0 with (h0 | h0) <;> first | exact h0 | omega)) (At.up (N := (Plus M bmn_10)) ho e0_5 (fun x0 h1 h0 => by rcases h0 with (h0 | h0) <;> first | exact h0 | omega)) (by omega) (by omega)) en17 rfl rfl (fun v_21 w6 s6 q_22 => ?_)
        have e0_6 : Evo M w w6 := e0_5.trans s6.no
        have e1_6 : Evo M w1 w6 := e1_5.trans s6.no
        have e4_6 : Evo (Plus M bmn_10) w4 w6 := e4_5.trans s6.no
        have e5_6 : Evo (Plus M bmn_10) w5 w6 := s6.no
        have z6 : Evo No w w6 := z5.trans s6.no
        have V_23 := V8.no s6
        obtain ⟨a9, c9, a8, c8, rfl, O9, lo9, O8, lo8, dI⟩ := q_22
        obtain ⟨b8, rfl⟩ := O8.some (by omega)
        have nb8 : w5.heap.size ≤ b8 := lo8 b8 ⟨by simp, rfl⟩
        have hb8 : b8 < w6.heap.size := O8.lt b8 ⟨by simp, rfl⟩
        have hv8 := V8.lt
        have hw8b : bmn_10 < b8 := Nat.lt_of_lt_of_le hv8 nb8
        have o8 := Old.plusN (b := b8) (oVn_10.on e4_5) s6 hb8
        have V_24 := V8.grow s6 nb8
        have lb8_0 : w.heap.size ≤ b8 := Nat.le_trans e0_5.size nb8
        have lb8_1 : w1.heap.size ≤ b8 := Nat.le_trans e1_5.size nb8
        have lb8_4 : w4.heap.size ≤ b8 := Nat.le_trans e4_5.size nb8
        have lb8_5 : w5.heap.size ≤ b8 := Nat.le_trans (Evo.refl (Plus M bmn_10) _).size nb8
        have lb8_w : w.heap.size ≤ b8 := Nat.le_trans z5.size nb8
        have lo_25 := own_up lo9 e0_5.size
        have lo_26 := own_up lo9 e1_5.size
        have lo_27 := own_up lo9 e4_5.size
        have lo_28 := own_up lo9 (Evo.refl (Plus M bmn_10) _).size
        have lo_29 : ∀ b, OwnB a9 b → w.heap.size ≤ b := own_up lo9 z5.size
        have lo_30 := own_up lo8 e0_5.size
        have lo_31 := own_up lo8 e1_5.size
        have lo_32 := own_up lo8 e4_5.size
        have lo_33 := own_up lo8 (Evo.refl (Plus M bmn_10) _).size
        have lo_34 : ∀ b, OwnB (some ⟨b8, 0, none⟩) b → w.heap.size ≤ b := own_up lo8 z5.size
        have dP : ∀ b, OwnB a9 b → ¬ (b = b8) := fun b hb e => dI b hb ⟨by simp, e⟩
        refine l_alloc (M := (Plus (Plus M bmn_10) b8)) Keep.any o8 rfl ze31 (fun k_35 w7 s7 ck_35 nk_35 ok_35 => ?_)
        have lk_35_0 : w.heap.size ≤ k_35 := Nat.le_trans e0_6.size nk_35
        have lk_35_1 : w1.heap.size ≤ k_35 := Nat.le_trans e1_6.size nk_35
        have lk_35_4 : w4.heap.size ≤ k_35 := Nat.le_trans e4_6.size nk_35
        have lk_35_5 : w5.heap.size ≤ k_35 := Nat.le_trans e5_6.size nk_35
        have lk_35_6 : w6.heap.size ≤ k_35 := Nat.le_trans (Evo.refl (Plus (Plus M bmn_10) b8) _).size nk_35
        have lk_35_w : w.heap.size ≤ k_35 := Nat.le_trans z6.size nk_35
        have hvk_35 := V_24.lt
        have hwk_35 : bmn_10 < k_35 := Nat.lt_of_lt_of_le hvk_35 nk_35
        have ow1_k_35 := fun (b0 : Nat) hb0 (e0 : b0 = k_35) => (absurd (O9.lt b0 hb0) (by omega) : False)
        have ow2_k_35 := fun (b0 : Nat) hb0 (e0 : b0 = k_35) => (absurd (O8.lt b0 hb0) (by omega) : False)
        have e0_7 : Evo M w w7 := e0_6.trans s7.no
        have e1_7 : Evo M w1 w7 := e1_6.trans s7.no
        have e4_7 : Evo (Plus M bmn_10) w4 w7 := e4_6.trans s7.no
        have e5_7 : Evo (Plus M bmn_10) w5 w7 := e5_6.trans s7.no
        have e6_7 : Evo (Plus (Plus M bmn_10) b8) w6 w7 := s7.no
        have z7 : Evo No w w7 := z6.trans s7.no
        have O_36 := O9.no s7
        have O_37 := O8.no s7
        have V_38 := V_24.no s7
        have hlk_35 := ck_35.lt
        have V_39 := V_24.grow s7 nk_35
        refine l_store Keep.any rfl rfl ck_35 rfl sz31 rfl (Nat.le_of_ble_eq_true rfl) rfl (cs' := [.int .i64 m.id, .int .i64 m.base, .int .i64 m.end_, .int .i64 m.time, .slice a9 en c9, .slice (some ⟨b8, 0, none⟩) on c8]) rfl (fun w8 s8 c_40 => ?_)
        have e0_8 : Evo M w w8 := e0_7.fresh s8 lk_35_0
        have e1_8 : Evo M w1 w8 := e1_7.fresh s8 lk_35_1
        have e4_8 : Evo (Plus M bmn_10) w4 w8 := e4_7.fresh s8 lk_35_4
        have e5_8 : Evo (Plus M bmn_10) w5 w8 := e5_7.fresh s8 lk_35_5
        have e6_8 : Evo (Plus (Plus M bmn_10) b8) w6 w8 := e6_7.fresh s8 lk_35_6
        have e7_8 : Evo (Plus (Plus (Plus M bmn_10) b8) k_35) w7 w8 := (Evo.refl (Plus (Plus (Plus M bmn_10) b8) k_35) _).fstep s8 (inX Plus.in)
        have z8 : Evo No w w8 := z7.fresh s8 lk_35_w
        have O_41 := O_36.on s8 (ow1_k_35)
        have O_42 := O_37.on s8 (ow2_k_35)
        have V_43 := V_39.on s8 (by omega) (inX Plus.in)
        refine done ?_
        refine thenN ?_
        refine seq ?_
        refine seq ?_
        refine region [true, false] ?_
        refine q_move (v := .int .i64 what) rfl rfl ?_
        have hne8 : k_35 ≠ b8 := fun e0 => ow2_k_35 b8 ⟨by simp, rfl⟩ e0.symm
        refine l_call Keep.any rfl (number_c w8 what 3 (by decide) (by decide) (by omega) (by omega)) en9 rfl rfl (fun v_44 w9 s9 q_45 => ?_)
        have e0_9 : Evo M w w9 := e0_8.trans s9.no
        have e1_9 : Evo M w1 w9 := e1_8.trans s9.no
        have e4_9 : Evo (Plus M bmn_10) w4 w9 := e4_8.trans s9.no
        have e5_9 : Evo (Plus M bmn_10) w5 w9 := e5_8.trans s9.no
        have e6_9 : Evo (Plus (Plus M bmn_10) b8) w6 w9 := e6_8.trans s9.no
        have e7_9 : Evo (Plus (Plus (Plus M bmn_10) b8) k_35) w7 w9 := e7_8.trans s9.no
        have z9 : Evo No w w9 := z8.trans s9.no
        have c_46 := c_40.no s9
        have O_47 := O_41.no s9
        have O_48 := O_42.no s9
        have V_49 := V_43.no s9
        obtain rfl := q_45
        refine done ?_
        refine thenN ?_
        refine blk ?_
        refine seq ?_
        refine region [true, true] ?_
        refine q_eql rfl rfl rfl ?_
        refine q_assign (v := .bool (decide (what % 3 = 0))) rfl rfl ?_
        refine done ?_
        refine thenN ?_
        refine cond_b rfl (fun h_50 => ?_) (fun h_50 => ?_)
        · skip
          have h_50p := of_decide_eq_true h_50
          refine region [true, false, true, true, false] ?_
          refine q_fieldAddr rfl rfl fl31_3 ?_
          refine l_loadB trivial rfl rfl pl2 c_46 rfl ?_
          refine q_xorI m.time 1 rfl rfl rfl ?_
          have hcm : ({ m with time := xorI .i64 m.time 1 } : Mani) ≠ m := time_ne m
          refine q_fieldAddr rfl rfl fl31_3 ?_
          refine l_store Keep.any rfl rfl c_46 rfl sz2 rfl (Nat.le_of_ble_eq_true rfl) rfl (cs' := [.int .i64 m.id, .int .i64 m.base, .int .i64 m.end_, .int .i64 (xorI .i64 m.time 1), .slice a9 en c9, .slice (some ⟨b8, 0, none⟩) on c8]) rfl (fun w10 s10 c_51 => ?_)
          have e0_10 : Evo M w w10 := e0_9.fresh s10 lk_35_0
          have e1_10 : Evo M w1 w10 := e1_9.fresh s10 lk_35_1
          have e4_10 : Evo (Plus M bmn_10) w4 w10 := e4_9.fresh s10 lk_35_4
          have e5_10 : Evo (Plus M bmn_10) w5 w10 := e5_9.fresh s10 lk_35_5
          have e6_10 : Evo (Plus (Plus M bmn_10) b8) w6 w10 := e6_9.fresh s10 lk_35_6
          have e7_10 : Evo (Plus (Plus (Plus M bmn_10) b8) k_35) w7 w10 := e7_9.fstep s10 (inX Plus.in)
          have z10 : Evo No w w10 := z9.fresh s10 lk_35_w
          have O_52 := O_47.on s10 (ow1_k_35)
          have O_53 := O_48.on s10 (ow2_k_35)
          have V_54 := V_49.on s10 (by omega) (inX Plus.in)
          refine done ?_
          refine blkN ?_
          refine thenN ?_
          refine seq ?_
          refine region [true, false, true] ?_
          refine q_move (v := .pointer (some ⟨bvn_10, 0, none⟩)) rfl rfl ?_
          have VN := V_54.to (N := (Plus M bmn_10)) (fun x hx => .inl (.inl (hx))) (.inr rfl)
          have oN : Old (Plus M bmn_10) w10 := fun x hx => (ok_35.on e7_10) x (.inl (.inl (hx)))
          refine l_call Keep.any rfl (vBytes_c (M := (Plus M bmn_10)) w10 (oN.on (Evo.refl (Plus M bmn_10) _)) bl (At.up (N := (Plus M bmn_10)) hG e0_10 (fun x0 h1 h0 => by rcases h0 with (h0 | h0) <;> first | exact h0 | omega)) bvn_10 bmn_10 [(1, m)] VN (fun q hq => by rw [List.mem_singleton] at hq; subst hq; exact A1.1) (by simp)) en18 rfl rfl (fun v_56 w11 s11 q_57 => ?_)
          have e0_11 : Evo M w w11 := e0_10.trans s11.no
          have e1_11 : Evo M w1 w11 := e1_10.trans s11.no
          have e4_11 : Evo (Plus M bmn_10) w4 w11 := e4_10.trans s11.no
          have e5_11 : Evo (Plus M bmn_10) w5 w11 := e5_10.trans s11.no
          have e6_11 : Evo (Plus (Plus M bmn_10) b8) w6 w11 := e6_10.trans s11.no
          have e7_11 : Evo (Plus (Plus (Plus M bmn_10) b8) k_35) w7 w11 := e7_10.trans s11.no
          have eN_11 : Evo (Plus M bmn_10) w10 w11 := s11.no
          have z11 : Evo No w w11 := z10.trans s11.no
          have c_58 := c_51.no s11
          have O_59 := O_52.no s11
          have O_60 := O_53.no s11
          have V_61 := VN.no s11
          obtain ⟨ay_55, ny_55, cy_55, rfl, Oy_55, loy_55, hny_55⟩ := q_57
          have hBy_55 : At (Plus M bmn_10) w11 (Sl 1 ((viewB [(1, m)]).map encB) ay_55 ny_55 cy_55) := Oy_55.at_ (own_notM (oN.on (Evo.refl (Plus M bmn_10) _)) loy_55)
          refine q_assign (v := .slice ay_55 ny_55 cy_55) rfl rfl ?_
          refine done ?_
          refine thenN ?_
          refine seq ?_
          refine regionD (· = bmn_10) (.q 0 (.q 1 (.q 4 (.l 2 (.q 3 (.q 5 (.l 6 (.q 7 (.nil))))))))) mixed (by kernel_rfl) (by kernel_rfl) (by kernel_rfl) (fun w12 s12 => ?_)
          have e0_12 : Evo M w w12 := e0_11.trans s12.no
          have e1_12 : Evo M w1 w12 := e1_11.trans s12.no
          have e4_12 : Evo (Plus M bmn_10) w4 w12 := e4_11.trans s12.no
          have e5_12 : Evo (Plus M bmn_10) w5 w12 := e5_11.trans s12.no
          have e6_12 : Evo (Plus (Plus M bmn_10) b8) w6 w12 := e6_11.trans s12.no
          have e7_12 : Evo (Plus (Plus (Plus M bmn_10) b8) k_35) w7 w12 := e7_11.trans s12.no
          have eN_12 : Evo (Plus M bmn_10) w10 w12 := eN_11.trans s12.no
          have e11_12 : Evo (Plus M bmn_10) w11 w12 := s12.no
          have z12 : Evo No w w12 := z11.trans s12.no
          have c_62 := c_58.no s12
          have O_63 := O_59.no s12
          have O_64 := O_60.no s12
          have V_65 := V_61.no s12
          have rgr_66_12 : Evo (· = bmn_10) w11 w12 := s12.no
          refine q_move (v := .pointer (some ⟨bvn_10, 0, none⟩)) rfl rfl ?_
          refine q_move (v := .int .i64 kind) rfl rfl ?_
          refine q_loadBN ([.int .i64 m.id, .int .i64 m.base, .int .i64 m.end_, .int .i64 (xorI .i64 m.time 1), .slice a9 en c9, .slice (some ⟨b8, 0, none⟩) on c8]) rfl rfl ag31 rfl (fun _ e => c_58.on e (by omega)) rfl ?_
          refine l_call (Keep.evo rgr_66_12 noX) rfl (number_c w12 kind 2 (by decide) (by decide) (by omega) (by omega)) en9 rfl rfl (fun v_67 w13 s13 q_68 => ?_)
          have e0_13 : Evo M w w13 := e0_12.trans s13.no
          have e1_13 : Evo M w1 w13 := e1_12.trans s13.no
          have e4_13 : Evo (Plus M bmn_10) w4 w13 := e4_12.trans s13.no
          have e5_13 : Evo (Plus M bmn_10) w5 w13 := e5_12.trans s13.no
          have e6_13 : Evo (Plus (Plus M bmn_10) b8) w6 w13 := e6_12.trans s13.no
          have e7_13 : Evo (Plus (Plus (Plus M bmn_10) b8) k_35) w7 w13 := e7_12.trans s13.no
          have eN_13 : Evo (Plus M bmn_10) w10 w13 := eN_12.trans s13.no
          have e11_13 : Evo (Plus M bmn_10) w11 w13 := e11_12.trans s13.no
          have z13 : Evo No w w13 := z12.trans s13.no
          have c_69 := c_62.no s13
          have O_70 := O_63.no s13
          have O_71 := O_64.no s13
          have V_72 := V_65.no s13
          have rgr_66_13 : Evo (· = bmn_10) w11 w13 := rgr_66_12.trans s13.no
          obtain rfl := q_68
          refine q_add rfl rfl rfl (wi64 (by omega) (by omega)) ?_
          refine q_build (.agg (List.toArray [.int .i64 ((kind % 2) + 2), .int .i64 m.id, .int .i64 m.base, .int .i64 m.end_, .int .i64 (xorI .i64 m.time 1), .slice a9 en c9, .slice (some ⟨b8, 0, none⟩) on c8])) rfl rfl (fun _ => by kernel_rfl) ?_
          have hE2 : applyErr [(1, m)] ((kind % 2) + 2) ({ m with time := xorI .i64 m.time 1 } : Mani) ≠ .ok := apply_other hcm rfl
          have hl2 : applyV [(1, m)] ((kind % 2) + 2) ({ m with time := xorI .i64 m.time 1 } : Mani) = [(1, m)] := if_neg hE2
          refine l_call (Keep.evo rgr_66_13 (inX rfl)) rfl (vApply_c (M := (Plus M bmn_10)) w13 (oN.on eN_13) bl (At.up (N := (Plus M bmn_10)) hG e0_13 (fun x0 h1 h0 => by rcases h0 with (h0 | h0) <;> first | exact h0 | omega)) bvn_10 bmn_10 [(1, m)] V_72 ((kind % 2) + 2) ({ m with time := xorI .i64 m.time 1 } : Mani) _ _ _ _ _ _ (O_70.at_ (own_notM (oVn_10.on e4_5) lo9)) (O_71.at_ (own_notM (oVn_10.on e4_5) lo8)) (by omega) (by omega)) en11 rfl rfl (fun v_74 w14 s14 q_75 => ?_)
          have e0_14 : Evo M w w14 := e0_13.fresh s14 lbmn_10_0
          have e1_14 : Evo M w1 w14 := e1_13.fresh s14 lbmn_10_1
          have e4_14 : Evo (Plus M bmn_10) w4 w14 := e4_13.fstep s14 (inX Plus.in)
          have e5_14 : Evo (Plus M bmn_10) w5 w14 := e5_13.fstep s14 (inX Plus.in)
          have e6_14 : Evo (Plus (Plus M bmn_10) b8) w6 w14 := e6_13.fstep s14 (inX (Plus.old Plus.in))
          have e7_14 : Evo (Plus (Plus (Plus M bmn_10) b8) k_35) w7 w14 := e7_13.fstep s14 (inX (Plus.old (Plus.old Plus.in)))
          have eN_14 : Evo (Plus M bmn_10) w10 w14 := eN_13.fstep s14 (inX Plus.in)
          have e11_14 : Evo (Plus M bmn_10) w11 w14 := e11_13.fstep s14 (inX Plus.in)
          have z14 : Evo No w w14 := z13.fresh s14 lbmn_10_w
          have c_76 := c_69.on s14 (by first | omega | (intro h0; subst h0; omega))
          have O_77 := O_70.on s14 (fun b hb e0 => absurd (lo9 b hb) (by omega))
          have O_78 := O_71.on s14 (fun b hb e0 => absurd (lo8 b hb) (by omega))
          have rgr_66_14 : Evo (· = bmn_10) w11 w14 := rgr_66_13.fstep s14 (inX rfl)
          obtain ⟨E_73, V_80⟩ := q_75
          rw [hl2] at V_80
          refine q_assign (v := v_74) rfl rfl ?_
          refine done ?_
          refine thenN ?_
          refine seq ?_
          refine regionD (· = bmn_10) (.q 0 (.q 1 (.q 2 (.q 3 (.q 5 (.l 4 (.l 6 (.q 7 (.q 8 (.q 9 (.q 10 (.q 11 (.l 12 (.q 13 (.q 14 (.q 15 (.q 16 (.q 17 (.q 20 (.l 18 (.q 19 (.q 21 (.l 22 (.q 23 (.q 24 (.q 25 (.nil))))))))))))))))))))))))))) mixed (by kernel_rfl) (by kernel_rfl) (by kernel_rfl) (fun w15 s15 => ?_)
          have e0_15 : Evo M w w15 := e0_14.trans s15.no
          have e1_15 : Evo M w1 w15 := e1_14.trans s15.no
          have e4_15 : Evo (Plus M bmn_10) w4 w15 := e4_14.trans s15.no
          have e5_15 : Evo (Plus M bmn_10) w5 w15 := e5_14.trans s15.no
          have e6_15 : Evo (Plus (Plus M bmn_10) b8) w6 w15 := e6_14.trans s15.no
          have e7_15 : Evo (Plus (Plus (Plus M bmn_10) b8) k_35) w7 w15 := e7_14.trans s15.no
          have eN_15 : Evo (Plus M bmn_10) w10 w15 := eN_14.trans s15.no
          have e11_15 : Evo (Plus M bmn_10) w11 w15 := e11_14.trans s15.no
          have e14_15 : Evo (Plus M bmn_10) w14 w15 := s15.no
          have z15 : Evo No w w15 := z14.trans s15.no
          have c_81 := c_76.no s15
          have O_82 := O_77.no s15
          have O_83 := O_78.no s15
          have V_84 := V_80.no s15
          have rgr_85_15 : Evo (· = bmn_10) w14 w15 := s15.no
          refine q_move (v := v_74) rfl rfl ?_
          rcases ErIs.cases E_73.here with ⟨h_86, rfl⟩ | ⟨h_86, t_87, u_88, rfl⟩
          · skip
            exact absurd h_86 hE2
          · skip
            refine q_ifNeq rfl rfl if34 ?_
            refine q_move (v := .bool true) rfl rfl ?_
            refine q_move (v := .pointer (some ⟨bvn_10, 0, none⟩)) rfl rfl ?_
            refine q_move (v := .slice ay_55 ny_55 cy_55) rfl rfl ?_
            refine l_call (Keep.evo rgr_85_15 noX) rfl (vBytes_c (M := (Plus M bmn_10)) w15 (oN.on eN_15) bl (At.up (N := (Plus M bmn_10)) hG e0_15 (fun x0 h1 h0 => by rcases h0 with (h0 | h0) <;> first | exact h0 | omega)) bvn_10 bmn_10 [(1, m)] V_84 (fun q hq => by rw [List.mem_singleton] at hq; subst hq; exact A1.1) (by simp)) en18 rfl rfl (fun v_90 w16 s16 q_91 => ?_)
            have e0_16 : Evo M w w16 := e0_15.trans s16.no
            have e1_16 : Evo M w1 w16 := e1_15.trans s16.no
            have e4_16 : Evo (Plus M bmn_10) w4 w16 := e4_15.trans s16.no
            have e5_16 : Evo (Plus M bmn_10) w5 w16 := e5_15.trans s16.no
            have e6_16 : Evo (Plus (Plus M bmn_10) b8) w6 w16 := e6_15.trans s16.no
            have e7_16 : Evo (Plus (Plus (Plus M bmn_10) b8) k_35) w7 w16 := e7_15.trans s16.no
            have eN_16 : Evo (Plus M bmn_10) w10 w16 := eN_15.trans s16.no
            have e11_16 : Evo (Plus M bmn_10) w11 w16 := e11_15.trans s16.no
            have e14_16 : Evo (Plus M bmn_10) w14 w16 := e14_15.trans s16.no
            have z16 : Evo No w w16 := z15.trans s16.no
            have c_92 := c_81.no s16
            have O_93 := O_82.no s16
            have O_94 := O_83.no s16
            have V_95 := V_84.no s16
            have rgr_85_16 : Evo (· = bmn_10) w14 w16 := rgr_85_15.trans s16.no
            obtain ⟨ay_89, ny_89, cy_89, rfl, Oy_89, loy_89, hny_89⟩ := q_91
            have hBy_89 : At (Plus M bmn_10) w16 (Sl 1 ((viewB [(1, m)]).map encB) ay_89 ny_89 cy_89) := Oy_89.at_ (own_notM (oN.on eN_15) loy_89)
            refine l_call (Keep.evo rgr_85_16 noX) rfl (sameBytes_c (M := (Plus M bmn_10)) w16 (viewB [(1, m)]) _ _ _ _ _ _ (hBy_89.on (Evo.refl (Plus M bmn_10) _)) (hBy_55.on e11_16) hny_89) en19 rfl rfl (fun v_96 w17 s17 q_97 => ?_)
            have e0_17 : Evo M w w17 := e0_16.trans s17.no
            have e1_17 : Evo M w1 w17 := e1_16.trans s17.no
            have e4_17 : Evo (Plus M bmn_10) w4 w17 := e4_16.trans s17.no
            have e5_17 : Evo (Plus M bmn_10) w5 w17 := e5_16.trans s17.no
            have e6_17 : Evo (Plus (Plus M bmn_10) b8) w6 w17 := e6_16.trans s17.no
            have e7_17 : Evo (Plus (Plus (Plus M bmn_10) b8) k_35) w7 w17 := e7_16.trans s17.no
            have eN_17 : Evo (Plus M bmn_10) w10 w17 := eN_16.trans s17.no
            have e11_17 : Evo (Plus M bmn_10) w11 w17 := e11_16.trans s17.no
            have e14_17 : Evo (Plus M bmn_10) w14 w17 := e14_16.trans s17.no
            have e16_17 : Evo (Plus M bmn_10) w16 w17 := s17.no
            have z17 : Evo No w w17 := z16.trans s17.no
            have c_98 := c_92.no s17
            have O_99 := O_93.no s17
            have O_100 := O_94.no s17
            have V_101 := V_95.no s17
            have rgr_85_17 : Evo (· = bmn_10) w14 w17 := rgr_85_16.trans s17.no
            obtain rfl := q_97
            refine q_pick_t (v := .bool true) rfl rfl rfl ?_
            refine q_move (v := .bool true) rfl rfl ?_
            refine q_move (v := .pointer (some ⟨bvn_10, 0, none⟩)) rfl rfl ?_
            refine q_fieldAddr rfl rfl fl31_0 ?_
            refine q_loadB rfl rfl pl3 (fk_1.via e1_14 (freshX lbmn_10_1)) rfl ?_
            refine l_call (Keep.evo rgr_85_17 noX) rfl (vState_c (M := (Plus M bmn_10)) w17 (oN.on eN_17) bvn_10 bmn_10 ([(1, m)]) V_101 m.id) en14 rfl rfl (fun v_102 w18 s18 q_103 => ?_)
            have e0_18 : Evo M w w18 := e0_17.trans s18.no
            have e1_18 : Evo M w1 w18 := e1_17.trans s18.no
            have e4_18 : Evo (Plus M bmn_10) w4 w18 := e4_17.trans s18.no
            have e5_18 : Evo (Plus M bmn_10) w5 w18 := e5_17.trans s18.no
            have e6_18 : Evo (Plus (Plus M bmn_10) b8) w6 w18 := e6_17.trans s18.no
            have e7_18 : Evo (Plus (Plus (Plus M bmn_10) b8) k_35) w7 w18 := e7_17.trans s18.no
            have eN_18 : Evo (Plus M bmn_10) w10 w18 := eN_17.trans s18.no
            have e11_18 : Evo (Plus M bmn_10) w11 w18 := e11_17.trans s18.no
            have e14_18 : Evo (Plus M bmn_10) w14 w18 := e14_17.trans s18.no
            have e16_18 : Evo (Plus M bmn_10) w16 w18 := e16_17.trans s18.no
            have z18 : Evo No w w18 := z17.trans s18.no
            have c_104 := c_98.no s18
            have O_105 := O_99.no s18
            have O_106 := O_100.no s18
            have V_107 := V_101.no s18
            have rgr_85_18 : Evo (· = bmn_10) w14 w18 := rgr_85_17.trans s18.no
            obtain rfl := q_103
            refine q_eql rfl rfl rfl ?_
            refine q_pick_t (v := .bool (decide (stateOf ([(1, m)]) m.id = 1))) rfl rfl rfl ?_
            refine q_move (v := .bool (decide (stateOf ([(1, m)]) m.id = 1))) rfl rfl ?_
            refine q_move (v := .pointer (some ⟨bvn_10, 0, none⟩)) (gtt (decide_eq_true (state_same m))) rfl ?_
            refine q_move (v := .int .i64 kind) (gtt (decide_eq_true (state_same m))) rfl ?_
            refine q_loadBN ([.int .i64 m.id, .int .i64 m.base, .int .i64 m.end_, .int .i64 m.time, .slice ea en ec, .slice oa on oc]) (gtt (decide_eq_true (state_same m))) rfl ag31 rfl (fk_1.via e1_14 (freshX lbmn_10_1)) rfl ?_
            refine l_call (Keep.evo rgr_85_18 noX) (gtt (decide_eq_true (state_same m))) (number_c w18 kind 2 (by decide) (by decide) (by omega) (by omega)) en9 rfl rfl (fun v_108 w19 s19 q_109 => ?_)
            have e0_19 : Evo M w w19 := e0_18.trans s19.no
            have e1_19 : Evo M w1 w19 := e1_18.trans s19.no
            have e4_19 : Evo (Plus M bmn_10) w4 w19 := e4_18.trans s19.no
            have e5_19 : Evo (Plus M bmn_10) w5 w19 := e5_18.trans s19.no
            have e6_19 : Evo (Plus (Plus M bmn_10) b8) w6 w19 := e6_18.trans s19.no
            have e7_19 : Evo (Plus (Plus (Plus M bmn_10) b8) k_35) w7 w19 := e7_18.trans s19.no
            have eN_19 : Evo (Plus M bmn_10) w10 w19 := eN_18.trans s19.no
            have e11_19 : Evo (Plus M bmn_10) w11 w19 := e11_18.trans s19.no
            have e14_19 : Evo (Plus M bmn_10) w14 w19 := e14_18.trans s19.no
            have e16_19 : Evo (Plus M bmn_10) w16 w19 := e16_18.trans s19.no
            have z19 : Evo No w w19 := z18.trans s19.no
            have c_110 := c_104.no s19
            have O_111 := O_105.no s19
            have O_112 := O_106.no s19
            have V_113 := V_107.no s19
            have rgr_85_19 : Evo (· = bmn_10) w14 w19 := rgr_85_18.trans s19.no
            obtain rfl := q_109
            refine q_add (gtt (decide_eq_true (state_same m))) rfl rfl (wi64 (by omega) (by omega)) ?_
            refine q_build (.agg (List.toArray [.int .i64 ((kind % 2) + 2), .int .i64 m.id, .int .i64 m.base, .int .i64 m.end_, .int .i64 m.time, .slice ea en ec, .slice oa on oc])) (gtt (decide_eq_true (state_same m))) rfl (fun _ => by kernel_rfl) ?_
            have hE3 : applyErr [(1, m)] ((kind % 2) + 2) m = .ok := apply_same A1.1 (by omega) (by omega)
            refine l_call (Keep.evo rgr_85_19 (inX rfl)) (gtt (decide_eq_true (state_same m))) (vApply_c (M := (Plus M bmn_10)) w19 (oN.on eN_19) bl (At.up (N := (Plus M bmn_10)) hG e0_19 (fun x0 h1 h0 => by rcases h0 with (h0 | h0) <;> first | exact h0 | omega)) bvn_10 bmn_10 ([(1, m)]) V_113 ((kind % 2) + 2) m _ _ _ _ _ _ (At.up (N := (Plus M bmn_10)) he e0_19 (fun x0 h1 h0 => by rcases h0 with (h0 | h0) <;> first | exact h0 | omega)) (At.up (N := (Plus M bmn_10)) ho e0_19 (fun x0 h1 h0 => by rcases h0 with (h0 | h0) <;> first | exact h0 | omega)) (by omega) (by omega)) en11 rfl rfl (fun v_115 w20 s20 q_116 => ?_)
            have e0_20 : Evo M w w20 := e0_19.fresh s20 lbmn_10_0
            have e1_20 : Evo M w1 w20 := e1_19.fresh s20 lbmn_10_1
            have e4_20 : Evo (Plus M bmn_10) w4 w20 := e4_19.fstep s20 (inX Plus.in)
            have e5_20 : Evo (Plus M bmn_10) w5 w20 := e5_19.fstep s20 (inX Plus.in)
            have e6_20 : Evo (Plus (Plus M bmn_10) b8) w6 w20 := e6_19.fstep s20 (inX (Plus.old Plus.in))
            have e7_20 : Evo (Plus (Plus (Plus M bmn_10) b8) k_35) w7 w20 := e7_19.fstep s20 (inX (Plus.old (Plus.old Plus.in)))
            have eN_20 : Evo (Plus M bmn_10) w10 w20 := eN_19.fstep s20 (inX Plus.in)
            have e11_20 : Evo (Plus M bmn_10) w11 w20 := e11_19.fstep s20 (inX Plus.in)
            have e14_20 : Evo (Plus M bmn_10) w14 w20 := e14_19.fstep s20 (inX Plus.in)
            have e16_20 : Evo (Plus M bmn_10) w16 w20 := e16_19.fstep s20 (inX Plus.in)
            have z20 : Evo No w w20 := z19.fresh s20 lbmn_10_w
            have c_117 := c_110.on s20 (by first | omega | (intro h0; subst h0; omega))
            have O_118 := O_111.on s20 (fun b hb e0 => absurd (lo9 b hb) (by omega))
            have O_119 := O_112.on s20 (fun b hb e0 => absurd (lo8 b hb) (by omega))
            have rgr_85_20 : Evo (· = bmn_10) w14 w20 := rgr_85_19.fstep s20 (inX rfl)
            obtain ⟨E_114, V_121⟩ := q_116
            rcases ErIs.cases E_114.here with ⟨h_122, rfl⟩ | ⟨h_122, t_123, u_124, rfl⟩
            · skip
              refine q_nilEql (gtt (decide_eq_true (state_same m))) rfl if34 ?_
              refine q_pick_bt (v := .bool true) rfl rfl (decide_eq_true (state_same m)) rfl ?_
              refine q_assign (v := .bool true) rfl rfl ?_
              refine done ?_
              refine thenN ?_
              refine wp_ret ?_
              refine ret1v (.bool true) rfl rfl ?_
              exact ⟨z20, rfl⟩
            · skip
              exact absurd hE3 h_122
        · skip
          have h_50p := of_decide_eq_false h_50
          refine seq ?_
          refine region [true, true] ?_
          refine q_eql rfl rfl rfl ?_
          refine q_assign (v := .bool (decide (what % 3 = 1))) rfl rfl ?_
          refine done ?_
          refine thenN ?_
          refine cond_b rfl (fun h_125 => ?_) (fun h_125 => ?_)
          · skip
            have h_125p := of_decide_eq_true h_125
            refine regionD (· = b8) (.q 0 (.q 1 (.q 2 (.q 3 (.q 4 (.q 5 (.l 6 (.q 7 (.q 8 (.q 9 (.l 10 (.nil)))))))))))) mixed (by kernel_rfl) (by kernel_rfl) (by kernel_rfl) (fun w10 s10 => ?_)
            have e0_10 : Evo M w w10 := e0_9.trans s10.no
            have e1_10 : Evo M w1 w10 := e1_9.trans s10.no
            have e4_10 : Evo (Plus M bmn_10) w4 w10 := e4_9.trans s10.no
            have e5_10 : Evo (Plus M bmn_10) w5 w10 := e5_9.trans s10.no
            have e6_10 : Evo (Plus (Plus M bmn_10) b8) w6 w10 := e6_9.trans s10.no
            have e7_10 : Evo (Plus (Plus (Plus M bmn_10) b8) k_35) w7 w10 := e7_9.trans s10.no
            have z10 : Evo No w w10 := z9.trans s10.no
            have c_126 := c_46.no s10
            have O_127 := O_47.no s10
            have O_128 := O_48.no s10
            have V_129 := V_49.no s10
            have rgr_130_10 : Evo (· = b8) w9 w10 := s10.no
            refine q_fieldAddr rfl rfl fl31_5 ?_
            refine q_loadB rfl rfl pl29 (fun _ e => c_46.on e (by omega)) rfl ?_
            refine q_fieldAddr rfl rfl fl31_5 ?_
            refine q_loadB rfl rfl pl29 (fun _ e => c_46.on e (by omega)) rfl ?_
            refine q_indexAddr rfl rfl rfl el29 (by omega) (by omega) ?_
            refine q_fieldAddr rfl rfl fl46_2 ?_
            refine l_load rgr_130_10 rfl rfl pl44 ((O_128.sl.area (Sl.map_get hob)) 2 _ rfl) ?_
            refine q_xorI ob.sum 5 rfl rfl rfl ?_
            have hcm : ({ m with objects := m.objects.set 0 { ob with sum := xorI .u32 ob.sum 5 } } : Mani) ≠ m := sum_ne hob
            refine q_indexAddr rfl rfl rfl el29 (by omega) (by omega) ?_
            refine q_fieldAddr rfl rfl fl46_2 ?_
            refine l_storeOwn (k := 3) (i := 0) (j := 2) (rows' := (m.objects.set 0 { ob with sum := xorI .u32 ob.sum 5 }).map encO) (Keep.evo rgr_130_10 (inX rfl)) rfl O_128 rfl rfl sz44 rfl rfl (Sl.map_get hob) (by decide) (by rw [List.map_set]; rfl) (fun w11 s11 O_131 => ?_)
            have e0_11 : Evo M w w11 := e0_10.fresh s11 lb8_0
            have e1_11 : Evo M w1 w11 := e1_10.fresh s11 lb8_1
            have e4_11 : Evo (Plus M bmn_10) w4 w11 := e4_10.fresh s11 lb8_4
            have e5_11 : Evo (Plus M bmn_10) w5 w11 := e5_10.fresh s11 lb8_5
            have e6_11 : Evo (Plus (Plus M bmn_10) b8) w6 w11 := e6_10.fstep s11 (inX Plus.in)
            have e7_11 : Evo (Plus (Plus (Plus M bmn_10) b8) k_35) w7 w11 := e7_10.fstep s11 (inX (Plus.old Plus.in))
            have z11 : Evo No w w11 := z10.fresh s11 lb8_w
            have c_132 := c_126.on s11 (by first | omega | (intro h0; subst h0; omega))
            have O_133 := O_127.on s11 (dP)
            have V_134 := V_129.on s11 (by omega) (inX (Plus.old Plus.in))
            have rgr_130_11 : Evo (· = b8) w9 w11 := rgr_130_10.fstep s11 (inX rfl)
            refine done ?_
            refine blkN ?_
            refine thenN ?_
            refine seq ?_
            refine region [true, false, true] ?_
            refine q_move (v := .pointer (some ⟨bvn_10, 0, none⟩)) rfl rfl ?_
            have VN := V_134.to (N := (Plus M bmn_10)) (fun x hx => .inl (.inl (hx))) (.inr rfl)
            have oN : Old (Plus M bmn_10) w11 := fun x hx => (ok_35.on e7_11) x (.inl (.inl (hx)))
            refine l_call Keep.any rfl (vBytes_c (M := (Plus M bmn_10)) w11 (oN.on (Evo.refl (Plus M bmn_10) _)) bl (At.up (N := (Plus M bmn_10)) hG e0_11 (fun x0 h1 h0 => by rcases h0 with (h0 | h0) <;> first | exact h0 | omega)) bvn_10 bmn_10 [(1, m)] VN (fun q hq => by rw [List.mem_singleton] at hq; subst hq; exact A1.1) (by simp)) en18 rfl rfl (fun v_136 w12 s12 q_137 => ?_)
            have e0_12 : Evo M w w12 := e0_11.trans s12.no
            have e1_12 : Evo M w1 w12 := e1_11.trans s12.no
            have e4_12 : Evo (Plus M bmn_10) w4 w12 := e4_11.trans s12.no
            have e5_12 : Evo (Plus M bmn_10) w5 w12 := e5_11.trans s12.no
            have e6_12 : Evo (Plus (Plus M bmn_10) b8) w6 w12 := e6_11.trans s12.no
            have e7_12 : Evo (Plus (Plus (Plus M bmn_10) b8) k_35) w7 w12 := e7_11.trans s12.no
            have eN_12 : Evo (Plus M bmn_10) w11 w12 := s12.no
            have z12 : Evo No w w12 := z11.trans s12.no
            have c_138 := c_132.no s12
            have O_139 := O_133.no s12
            have O_140 := O_131.no s12
            have V_141 := VN.no s12
            obtain ⟨ay_135, ny_135, cy_135, rfl, Oy_135, loy_135, hny_135⟩ := q_137
            have hBy_135 : At (Plus M bmn_10) w12 (Sl 1 ((viewB [(1, m)]).map encB) ay_135 ny_135 cy_135) := Oy_135.at_ (own_notM (oN.on (Evo.refl (Plus M bmn_10) _)) loy_135)
            refine q_assign (v := .slice ay_135 ny_135 cy_135) rfl rfl ?_
            refine done ?_
            refine thenN ?_
            refine seq ?_
            refine regionD (· = bmn_10) (.q 0 (.q 1 (.q 4 (.l 2 (.q 3 (.q 5 (.l 6 (.q 7 (.nil))))))))) mixed (by kernel_rfl) (by kernel_rfl) (by kernel_rfl) (fun w13 s13 => ?_)
            have e0_13 : Evo M w w13 := e0_12.trans s13.no
            have e1_13 : Evo M w1 w13 := e1_12.trans s13.no
            have e4_13 : Evo (Plus M bmn_10) w4 w13 := e4_12.trans s13.no
            have e5_13 : Evo (Plus M bmn_10) w5 w13 := e5_12.trans s13.no
            have e6_13 : Evo (Plus (Plus M bmn_10) b8) w6 w13 := e6_12.trans s13.no
            have e7_13 : Evo (Plus (Plus (Plus M bmn_10) b8) k_35) w7 w13 := e7_12.trans s13.no
            have eN_13 : Evo (Plus M bmn_10) w11 w13 := eN_12.trans s13.no
            have e12_13 : Evo (Plus M bmn_10) w12 w13 := s13.no
            have z13 : Evo No w w13 := z12.trans s13.no
            have c_142 := c_138.no s13
            have O_143 := O_139.no s13
            have O_144 := O_140.no s13
            have V_145 := V_141.no s13
            have rgr_146_13 : Evo (· = bmn_10) w12 w13 := s13.no
            refine q_move (v := .pointer (some ⟨bvn_10, 0, none⟩)) rfl rfl ?_
            refine q_move (v := .int .i64 kind) rfl rfl ?_
            refine q_loadBN ([.int .i64 m.id, .int .i64 m.base, .int .i64 m.end_, .int .i64 m.time, .slice a9 en c9, .slice (some ⟨b8, 0, none⟩) on c8]) rfl rfl ag31 rfl (fun _ e => c_138.on e (by omega)) rfl ?_
            refine l_call (Keep.evo rgr_146_13 noX) rfl (number_c w13 kind 2 (by decide) (by decide) (by omega) (by omega)) en9 rfl rfl (fun v_147 w14 s14 q_148 => ?_)
            have e0_14 : Evo M w w14 := e0_13.trans s14.no
            have e1_14 : Evo M w1 w14 := e1_13.trans s14.no
            have e4_14 : Evo (Plus M bmn_10) w4 w14 := e4_13.trans s14.no
            have e5_14 : Evo (Plus M bmn_10) w5 w14 := e5_13.trans s14.no
            have e6_14 : Evo (Plus (Plus M bmn_10) b8) w6 w14 := e6_13.trans s14.no
            have e7_14 : Evo (Plus (Plus (Plus M bmn_10) b8) k_35) w7 w14 := e7_13.trans s14.no
            have eN_14 : Evo (Plus M bmn_10) w11 w14 := eN_13.trans s14.no
            have e12_14 : Evo (Plus M bmn_10) w12 w14 := e12_13.trans s14.no
            have z14 : Evo No w w14 := z13.trans s14.no
            have c_149 := c_142.no s14
            have O_150 := O_143.no s14
            have O_151 := O_144.no s14
            have V_152 := V_145.no s14
            have rgr_146_14 : Evo (· = bmn_10) w12 w14 := rgr_146_13.trans s14.no
            obtain rfl := q_148
            refine q_add rfl rfl rfl (wi64 (by omega) (by omega)) ?_
            refine q_build (.agg (List.toArray [.int .i64 ((kind % 2) + 2), .int .i64 m.id, .int .i64 m.base, .int .i64 m.end_, .int .i64 m.time, .slice a9 en c9, .slice (some ⟨b8, 0, none⟩) on c8])) rfl rfl (fun _ => by kernel_rfl) ?_
            have hE2 : applyErr [(1, m)] ((kind % 2) + 2) ({ m with objects := m.objects.set 0 { ob with sum := xorI .u32 ob.sum 5 } } : Mani) ≠ .ok := apply_other hcm rfl
            have hl2 : applyV [(1, m)] ((kind % 2) + 2) ({ m with objects := m.objects.set 0 { ob with sum := xorI .u32 ob.sum 5 } } : Mani) = [(1, m)] := if_neg hE2
            refine l_call (Keep.evo rgr_146_14 (inX rfl)) rfl (vApply_c (M := (Plus M bmn_10)) w14 (oN.on eN_14) bl (At.up (N := (Plus M bmn_10)) hG e0_14 (fun x0 h1 h0 => by rcases h0 with (h0 | h0) <;> first | exact h0 | omega)) bvn_10 bmn_10 [(1, m)] V_152 ((kind % 2) + 2) ({ m with objects := m.objects.set 0 { ob with sum := xorI .u32 ob.sum 5 } } : Mani) _ _ _ _ _ _ (O_150.at_ (own_notM (oVn_10.on e4_5) lo9)) (O_151.at_ (own_notM (oVn_10.on e4_5) lo8)) (by omega) (by omega)) en11 rfl rfl (fun v_154 w15 s15 q_155 => ?_)
            have e0_15 : Evo M w w15 := e0_14.fresh s15 lbmn_10_0
            have e1_15 : Evo M w1 w15 := e1_14.fresh s15 lbmn_10_1
            have e4_15 : Evo (Plus M bmn_10) w4 w15 := e4_14.fstep s15 (inX Plus.in)
            have e5_15 : Evo (Plus M bmn_10) w5 w15 := e5_14.fstep s15 (inX Plus.in)
            have e6_15 : Evo (Plus (Plus M bmn_10) b8) w6 w15 := e6_14.fstep s15 (inX (Plus.old Plus.in))
            have e7_15 : Evo (Plus (Plus (Plus M bmn_10) b8) k_35) w7 w15 := e7_14.fstep s15 (inX (Plus.old (Plus.old Plus.in)))
            have eN_15 : Evo (Plus M bmn_10) w11 w15 := eN_14.fstep s15 (inX Plus.in)
            have e12_15 : Evo (Plus M bmn_10) w12 w15 := e12_14.fstep s15 (inX Plus.in)
            have z15 : Evo No w w15 := z14.fresh s15 lbmn_10_w
            have c_156 := c_149.on s15 (by first | omega | (intro h0; subst h0; omega))
            have O_157 := O_150.on s15 (fun b hb e0 => absurd (lo9 b hb) (by omega))
            have O_158 := O_151.on s15 (fun b hb e0 => absurd (lo8 b hb) (by omega))
            have rgr_146_15 : Evo (· = bmn_10) w12 w15 := rgr_146_14.fstep s15 (inX rfl)
            obtain ⟨E_153, V_160⟩ := q_155
            rw [hl2] at V_160
            refine q_assign (v := v_154) rfl rfl ?_
            refine done ?_
            refine thenN ?_
            refine seq ?_
            refine regionD (· = bmn_10) (.q 0 (.q 1 (.q 2 (.q 3 (.q 5 (.l 4 (.l 6 (.q 7 (.q 8 (.q 9 (.q 10 (.q 11 (.l 12 (.q 13 (.q 14 (.q 15 (.q 16 (.q 17 (.q 20 (.l 18 (.q 19 (.q 21 (.l 22 (.q 23 (.q 24 (.q 25 (.nil))))))))))))))))))))))))))) mixed (by kernel_rfl) (by kernel_rfl) (by kernel_rfl) (fun w16 s16 => ?_)
            have e0_16 : Evo M w w16 := e0_15.trans s16.no
            have e1_16 : Evo M w1 w16 := e1_15.trans s16.no
            have e4_16 : Evo (Plus M bmn_10) w4 w16 := e4_15.trans s16.no
            have e5_16 : Evo (Plus M bmn_10) w5 w16 := e5_15.trans s16.no
            have e6_16 : Evo (Plus (Plus M bmn_10) b8) w6 w16 := e6_15.trans s16.no
            have e7_16 : Evo (Plus (Plus (Plus M bmn_10) b8) k_35) w7 w16 := e7_15.trans s16.no
            have eN_16 : Evo (Plus M bmn_10) w11 w16 := eN_15.trans s16.no
            have e12_16 : Evo (Plus M bmn_10) w12 w16 := e12_15.trans s16.no
            have e15_16 : Evo (Plus M bmn_10) w15 w16 := s16.no
            have z16 : Evo No w w16 := z15.trans s16.no
            have c_161 := c_156.no s16
            have O_162 := O_157.no s16
            have O_163 := O_158.no s16
            have V_164 := V_160.no s16
            have rgr_165_16 : Evo (· = bmn_10) w15 w16 := s16.no
            refine q_move (v := v_154) rfl rfl ?_
            rcases ErIs.cases E_153.here with ⟨h_166, rfl⟩ | ⟨h_166, t_167, u_168, rfl⟩
            · skip
              exact absurd h_166 hE2
            · skip
              refine q_ifNeq rfl rfl if34 ?_
              refine q_move (v := .bool true) rfl rfl ?_
              refine q_move (v := .pointer (some ⟨bvn_10, 0, none⟩)) rfl rfl ?_
              refine q_move (v := .slice ay_135 ny_135 cy_135) rfl rfl ?_
              refine l_call (Keep.evo rgr_165_16 noX) rfl (vBytes_c (M := (Plus M bmn_10)) w16 (oN.on eN_16) bl (At.up (N := (Plus M bmn_10)) hG e0_16 (fun x0 h1 h0 => by rcases h0 with (h0 | h0) <;> first | exact h0 | omega)) bvn_10 bmn_10 [(1, m)] V_164 (fun q hq => by rw [List.mem_singleton] at hq; subst hq; exact A1.1) (by simp)) en18 rfl rfl (fun v_170 w17 s17 q_171 => ?_)
              have e0_17 : Evo M w w17 := e0_16.trans s17.no
              have e1_17 : Evo M w1 w17 := e1_16.trans s17.no
              have e4_17 : Evo (Plus M bmn_10) w4 w17 := e4_16.trans s17.no
              have e5_17 : Evo (Plus M bmn_10) w5 w17 := e5_16.trans s17.no
              have e6_17 : Evo (Plus (Plus M bmn_10) b8) w6 w17 := e6_16.trans s17.no
              have e7_17 : Evo (Plus (Plus (Plus M bmn_10) b8) k_35) w7 w17 := e7_16.trans s17.no
              have eN_17 : Evo (Plus M bmn_10) w11 w17 := eN_16.trans s17.no
              have e12_17 : Evo (Plus M bmn_10) w12 w17 := e12_16.trans s17.no
              have e15_17 : Evo (Plus M bmn_10) w15 w17 := e15_16.trans s17.no
              have z17 : Evo No w w17 := z16.trans s17.no
              have c_172 := c_161.no s17
              have O_173 := O_162.no s17
              have O_174 := O_163.no s17
              have V_175 := V_164.no s17
              have rgr_165_17 : Evo (· = bmn_10) w15 w17 := rgr_165_16.trans s17.no
              obtain ⟨ay_169, ny_169, cy_169, rfl, Oy_169, loy_169, hny_169⟩ := q_171
              have hBy_169 : At (Plus M bmn_10) w17 (Sl 1 ((viewB [(1, m)]).map encB) ay_169 ny_169 cy_169) := Oy_169.at_ (own_notM (oN.on eN_16) loy_169)
              refine l_call (Keep.evo rgr_165_17 noX) rfl (sameBytes_c (M := (Plus M bmn_10)) w17 (viewB [(1, m)]) _ _ _ _ _ _ (hBy_169.on (Evo.refl (Plus M bmn_10) _)) (hBy_135.on e12_17) hny_169) en19 rfl rfl (fun v_176 w18 s18 q_177 => ?_)
              have e0_18 : Evo M w w18 := e0_17.trans s18.no
              have e1_18 : Evo M w1 w18 := e1_17.trans s18.no
              have e4_18 : Evo (Plus M bmn_10) w4 w18 := e4_17.trans s18.no
              have e5_18 : Evo (Plus M bmn_10) w5 w18 := e5_17.trans s18.no
              have e6_18 : Evo (Plus (Plus M bmn_10) b8) w6 w18 := e6_17.trans s18.no
              have e7_18 : Evo (Plus (Plus (Plus M bmn_10) b8) k_35) w7 w18 := e7_17.trans s18.no
              have eN_18 : Evo (Plus M bmn_10) w11 w18 := eN_17.trans s18.no
              have e12_18 : Evo (Plus M bmn_10) w12 w18 := e12_17.trans s18.no
              have e15_18 : Evo (Plus M bmn_10) w15 w18 := e15_17.trans s18.no
              have e17_18 : Evo (Plus M bmn_10) w17 w18 := s18.no
              have z18 : Evo No w w18 := z17.trans s18.no
              have c_178 := c_172.no s18
              have O_179 := O_173.no s18
              have O_180 := O_174.no s18
              have V_181 := V_175.no s18
              have rgr_165_18 : Evo (· = bmn_10) w15 w18 := rgr_165_17.trans s18.no
              obtain rfl := q_177
              refine q_pick_t (v := .bool true) rfl rfl rfl ?_
              refine q_move (v := .bool true) rfl rfl ?_
              refine q_move (v := .pointer (some ⟨bvn_10, 0, none⟩)) rfl rfl ?_
              refine q_fieldAddr rfl rfl fl31_0 ?_
              refine q_loadB rfl rfl pl3 (fk_1.via e1_15 (freshX lbmn_10_1)) rfl ?_
              refine l_call (Keep.evo rgr_165_18 noX) rfl (vState_c (M := (Plus M bmn_10)) w18 (oN.on eN_18) bvn_10 bmn_10 ([(1, m)]) V_181 m.id) en14 rfl rfl (fun v_182 w19 s19 q_183 => ?_)
              have e0_19 : Evo M w w19 := e0_18.trans s19.no
              have e1_19 : Evo M w1 w19 := e1_18.trans s19.no
              have e4_19 : Evo (Plus M bmn_10) w4 w19 := e4_18.trans s19.no
              have e5_19 : Evo (Plus M bmn_10) w5 w19 := e5_18.trans s19.no
              have e6_19 : Evo (Plus (Plus M bmn_10) b8) w6 w19 := e6_18.trans s19.no
              have e7_19 : Evo (Plus (Plus (Plus M bmn_10) b8) k_35) w7 w19 := e7_18.trans s19.no
              have eN_19 : Evo (Plus M bmn_10) w11 w19 := eN_18.trans s19.no
              have e12_19 : Evo (Plus M bmn_10) w12 w19 := e12_18.trans s19.no
              have e15_19 : Evo (Plus M bmn_10) w15 w19 := e15_18.trans s19.no
              have e17_19 : Evo (Plus M bmn_10) w17 w19 := e17_18.trans s19.no
              have z19 : Evo No w w19 := z18.trans s19.no
              have c_184 := c_178.no s19
              have O_185 := O_179.no s19
              have O_186 := O_180.no s19
              have V_187 := V_181.no s19
              have rgr_165_19 : Evo (· = bmn_10) w15 w19 := rgr_165_18.trans s19.no
              obtain rfl := q_183
              refine q_eql rfl rfl rfl ?_
              refine q_pick_t (v := .bool (decide (stateOf ([(1, m)]) m.id = 1))) rfl rfl rfl ?_
              refine q_move (v := .bool (decide (stateOf ([(1, m)]) m.id = 1))) rfl rfl ?_
              refine q_move (v := .pointer (some ⟨bvn_10, 0, none⟩)) (gtt (decide_eq_true (state_same m))) rfl ?_
              refine q_move (v := .int .i64 kind) (gtt (decide_eq_true (state_same m))) rfl ?_
              refine q_loadBN ([.int .i64 m.id, .int .i64 m.base, .int .i64 m.end_, .int .i64 m.time, .slice ea en ec, .slice oa on oc]) (gtt (decide_eq_true (state_same m))) rfl ag31 rfl (fk_1.via e1_15 (freshX lbmn_10_1)) rfl ?_
              refine l_call (Keep.evo rgr_165_19 noX) (gtt (decide_eq_true (state_same m))) (number_c w19 kind 2 (by decide) (by decide) (by omega) (by omega)) en9 rfl rfl (fun v_188 w20 s20 q_189 => ?_)
              have e0_20 : Evo M w w20 := e0_19.trans s20.no
              have e1_20 : Evo M w1 w20 := e1_19.trans s20.no
              have e4_20 : Evo (Plus M bmn_10) w4 w20 := e4_19.trans s20.no
              have e5_20 : Evo (Plus M bmn_10) w5 w20 := e5_19.trans s20.no
              have e6_20 : Evo (Plus (Plus M bmn_10) b8) w6 w20 := e6_19.trans s20.no
              have e7_20 : Evo (Plus (Plus (Plus M bmn_10) b8) k_35) w7 w20 := e7_19.trans s20.no
              have eN_20 : Evo (Plus M bmn_10) w11 w20 := eN_19.trans s20.no
              have e12_20 : Evo (Plus M bmn_10) w12 w20 := e12_19.trans s20.no
              have e15_20 : Evo (Plus M bmn_10) w15 w20 := e15_19.trans s20.no
              have e17_20 : Evo (Plus M bmn_10) w17 w20 := e17_19.trans s20.no
              have z20 : Evo No w w20 := z19.trans s20.no
              have c_190 := c_184.no s20
              have O_191 := O_185.no s20
              have O_192 := O_186.no s20
              have V_193 := V_187.no s20
              have rgr_165_20 : Evo (· = bmn_10) w15 w20 := rgr_165_19.trans s20.no
              obtain rfl := q_189
              refine q_add (gtt (decide_eq_true (state_same m))) rfl rfl (wi64 (by omega) (by omega)) ?_
              refine q_build (.agg (List.toArray [.int .i64 ((kind % 2) + 2), .int .i64 m.id, .int .i64 m.base, .int .i64 m.end_, .int .i64 m.time, .slice ea en ec, .slice oa on oc])) (gtt (decide_eq_true (state_same m))) rfl (fun _ => by kernel_rfl) ?_
              have hE3 : applyErr [(1, m)] ((kind % 2) + 2) m = .ok := apply_same A1.1 (by omega) (by omega)
              refine l_call (Keep.evo rgr_165_20 (inX rfl)) (gtt (decide_eq_true (state_same m))) (vApply_c (M := (Plus M bmn_10)) w20 (oN.on eN_20) bl (At.up (N := (Plus M bmn_10)) hG e0_20 (fun x0 h1 h0 => by rcases h0 with (h0 | h0) <;> first | exact h0 | omega)) bvn_10 bmn_10 ([(1, m)]) V_193 ((kind % 2) + 2) m _ _ _ _ _ _ (At.up (N := (Plus M bmn_10)) he e0_20 (fun x0 h1 h0 => by rcases h0 with (h0 | h0) <;> first | exact h0 | omega)) (At.up (N := (Plus M bmn_10)) ho e0_20 (fun x0 h1 h0 => by rcases h0 with (h0 | h0) <;> first | exact h0 | omega)) (by omega) (by omega)) en11 rfl rfl (fun v_195 w21 s21 q_196 => ?_)
              have e0_21 : Evo M w w21 := e0_20.fresh s21 lbmn_10_0
              have e1_21 : Evo M w1 w21 := e1_20.fresh s21 lbmn_10_1
              have e4_21 : Evo (Plus M bmn_10) w4 w21 := e4_20.fstep s21 (inX Plus.in)
              have e5_21 : Evo (Plus M bmn_10) w5 w21 := e5_20.fstep s21 (inX Plus.in)
              have e6_21 : Evo (Plus (Plus M bmn_10) b8) w6 w21 := e6_20.fstep s21 (inX (Plus.old Plus.in))
              have e7_21 : Evo (Plus (Plus (Plus M bmn_10) b8) k_35) w7 w21 := e7_20.fstep s21 (inX (Plus.old (Plus.old Plus.in)))
              have eN_21 : Evo (Plus M bmn_10) w11 w21 := eN_20.fstep s21 (inX Plus.in)
              have e12_21 : Evo (Plus M bmn_10) w12 w21 := e12_20.fstep s21 (inX Plus.in)
              have e15_21 : Evo (Plus M bmn_10) w15 w21 := e15_20.fstep s21 (inX Plus.in)
              have e17_21 : Evo (Plus M bmn_10) w17 w21 := e17_20.fstep s21 (inX Plus.in)
              have z21 : Evo No w w21 := z20.fresh s21 lbmn_10_w
              have c_197 := c_190.on s21 (by first | omega | (intro h0; subst h0; omega))
              have O_198 := O_191.on s21 (fun b hb e0 => absurd (lo9 b hb) (by omega))
              have O_199 := O_192.on s21 (fun b hb e0 => absurd (lo8 b hb) (by omega))
              have rgr_165_21 : Evo (· = bmn_10) w15 w21 := rgr_165_20.fstep s21 (inX rfl)
              obtain ⟨E_194, V_201⟩ := q_196
              rcases ErIs.cases E_194.here with ⟨h_202, rfl⟩ | ⟨h_202, t_203, u_204, rfl⟩
              · skip
                refine q_nilEql (gtt (decide_eq_true (state_same m))) rfl if34 ?_
                refine q_pick_bt (v := .bool true) rfl rfl (decide_eq_true (state_same m)) rfl ?_
                refine q_assign (v := .bool true) rfl rfl ?_
                refine done ?_
                refine thenN ?_
                refine wp_ret ?_
                refine ret1v (.bool true) rfl rfl ?_
                exact ⟨z21, rfl⟩
              · skip
                exact absurd hE3 h_202
          · skip
            have h_125p := of_decide_eq_false h_125
            refine regionD (· = b8) (.q 0 (.q 1 (.q 2 (.q 3 (.q 4 (.q 5 (.l 6 (.q 7 (.q 8 (.q 9 (.l 10 (.nil)))))))))))) mixed (by kernel_rfl) (by kernel_rfl) (by kernel_rfl) (fun w10 s10 => ?_)
            have e0_10 : Evo M w w10 := e0_9.trans s10.no
            have e1_10 : Evo M w1 w10 := e1_9.trans s10.no
            have e4_10 : Evo (Plus M bmn_10) w4 w10 := e4_9.trans s10.no
            have e5_10 : Evo (Plus M bmn_10) w5 w10 := e5_9.trans s10.no
            have e6_10 : Evo (Plus (Plus M bmn_10) b8) w6 w10 := e6_9.trans s10.no
            have e7_10 : Evo (Plus (Plus (Plus M bmn_10) b8) k_35) w7 w10 := e7_9.trans s10.no
            have z10 : Evo No w w10 := z9.trans s10.no
            have c_205 := c_46.no s10
            have O_206 := O_47.no s10
            have O_207 := O_48.no s10
            have V_208 := V_49.no s10
            have rgr_209_10 : Evo (· = b8) w9 w10 := s10.no
            refine q_fieldAddr rfl rfl fl31_5 ?_
            refine q_loadB rfl rfl pl29 (fun _ e => c_46.on e (by omega)) rfl ?_
            refine q_fieldAddr rfl rfl fl31_5 ?_
            refine q_loadB rfl rfl pl29 (fun _ e => c_46.on e (by omega)) rfl ?_
            refine q_indexAddr rfl rfl rfl el29 (by omega) (by omega) ?_
            refine q_fieldAddr rfl rfl fl46_1 ?_
            refine l_load rgr_209_10 rfl rfl pl3 ((O_207.sl.area (Sl.map_get hob)) 1 _ rfl) ?_
            refine q_xorI ob.len 1 rfl rfl rfl ?_
            have hcm : ({ m with objects := m.objects.set 0 { ob with len := xorI .i64 ob.len 1 } } : Mani) ≠ m := len_ne hob
            refine q_indexAddr rfl rfl rfl el29 (by omega) (by omega) ?_
            refine q_fieldAddr rfl rfl fl46_1 ?_
            refine l_storeOwn (k := 3) (i := 0) (j := 1) (rows' := (m.objects.set 0 { ob with len := xorI .i64 ob.len 1 }).map encO) (Keep.evo rgr_209_10 (inX rfl)) rfl O_207 rfl rfl sz3 rfl rfl (Sl.map_get hob) (by decide) (by rw [List.map_set]; rfl) (fun w11 s11 O_210 => ?_)
            have e0_11 : Evo M w w11 := e0_10.fresh s11 lb8_0
            have e1_11 : Evo M w1 w11 := e1_10.fresh s11 lb8_1
            have e4_11 : Evo (Plus M bmn_10) w4 w11 := e4_10.fresh s11 lb8_4
            have e5_11 : Evo (Plus M bmn_10) w5 w11 := e5_10.fresh s11 lb8_5
            have e6_11 : Evo (Plus (Plus M bmn_10) b8) w6 w11 := e6_10.fstep s11 (inX Plus.in)
            have e7_11 : Evo (Plus (Plus (Plus M bmn_10) b8) k_35) w7 w11 := e7_10.fstep s11 (inX (Plus.old Plus.in))
            have z11 : Evo No w w11 := z10.fresh s11 lb8_w
            have c_211 := c_205.on s11 (by first | omega | (intro h0; subst h0; omega))
            have O_212 := O_206.on s11 (dP)
            have V_213 := V_208.on s11 (by omega) (inX (Plus.old Plus.in))
            have rgr_209_11 : Evo (· = b8) w9 w11 := rgr_209_10.fstep s11 (inX rfl)
            refine done ?_
            refine blkN ?_
            refine thenN ?_
            refine seq ?_
            refine region [true, false, true] ?_
            refine q_move (v := .pointer (some ⟨bvn_10, 0, none⟩)) rfl rfl ?_
            have VN := V_213.to (N := (Plus M bmn_10)) (fun x hx => .inl (.inl (hx))) (.inr rfl)
            have oN : Old (Plus M bmn_10) w11 := fun x hx => (ok_35.on e7_11) x (.inl (.inl (hx)))
            refine l_call Keep.any rfl (vBytes_c (M := (Plus M bmn_10)) w11 (oN.on (Evo.refl (Plus M bmn_10) _)) bl (At.up (N := (Plus M bmn_10)) hG e0_11 (fun x0 h1 h0 => by rcases h0 with (h0 | h0) <;> first | exact h0 | omega)) bvn_10 bmn_10 [(1, m)] VN (fun q hq => by rw [List.mem_singleton] at hq; subst hq; exact A1.1) (by simp)) en18 rfl rfl (fun v_215 w12 s12 q_216 => ?_)
            have e0_12 : Evo M w w12 := e0_11.trans s12.no
            have e1_12 : Evo M w1 w12 := e1_11.trans s12.no
            have e4_12 : Evo (Plus M bmn_10) w4 w12 := e4_11.trans s12.no
            have e5_12 : Evo (Plus M bmn_10) w5 w12 := e5_11.trans s12.no
            have e6_12 : Evo (Plus (Plus M bmn_10) b8) w6 w12 := e6_11.trans s12.no
            have e7_12 : Evo (Plus (Plus (Plus M bmn_10) b8) k_35) w7 w12 := e7_11.trans s12.no
            have eN_12 : Evo (Plus M bmn_10) w11 w12 := s12.no
            have z12 : Evo No w w12 := z11.trans s12.no
            have c_217 := c_211.no s12
            have O_218 := O_212.no s12
            have O_219 := O_210.no s12
            have V_220 := VN.no s12
            obtain ⟨ay_214, ny_214, cy_214, rfl, Oy_214, loy_214, hny_214⟩ := q_216
            have hBy_214 : At (Plus M bmn_10) w12 (Sl 1 ((viewB [(1, m)]).map encB) ay_214 ny_214 cy_214) := Oy_214.at_ (own_notM (oN.on (Evo.refl (Plus M bmn_10) _)) loy_214)
            refine q_assign (v := .slice ay_214 ny_214 cy_214) rfl rfl ?_
            refine done ?_
            refine thenN ?_
            refine seq ?_
            refine regionD (· = bmn_10) (.q 0 (.q 1 (.q 4 (.l 2 (.q 3 (.q 5 (.l 6 (.q 7 (.nil))))))))) mixed (by kernel_rfl) (by kernel_rfl) (by kernel_rfl) (fun w13 s13 => ?_)
            have e0_13 : Evo M w w13 := e0_12.trans s13.no
            have e1_13 : Evo M w1 w13 := e1_12.trans s13.no
            have e4_13 : Evo (Plus M bmn_10) w4 w13 := e4_12.trans s13.no
            have e5_13 : Evo (Plus M bmn_10) w5 w13 := e5_12.trans s13.no
            have e6_13 : Evo (Plus (Plus M bmn_10) b8) w6 w13 := e6_12.trans s13.no
            have e7_13 : Evo (Plus (Plus (Plus M bmn_10) b8) k_35) w7 w13 := e7_12.trans s13.no
            have eN_13 : Evo (Plus M bmn_10) w11 w13 := eN_12.trans s13.no
            have e12_13 : Evo (Plus M bmn_10) w12 w13 := s13.no
            have z13 : Evo No w w13 := z12.trans s13.no
            have c_221 := c_217.no s13
            have O_222 := O_218.no s13
            have O_223 := O_219.no s13
            have V_224 := V_220.no s13
            have rgr_225_13 : Evo (· = bmn_10) w12 w13 := s13.no
            refine q_move (v := .pointer (some ⟨bvn_10, 0, none⟩)) rfl rfl ?_
            refine q_move (v := .int .i64 kind) rfl rfl ?_
            refine q_loadBN ([.int .i64 m.id, .int .i64 m.base, .int .i64 m.end_, .int .i64 m.time, .slice a9 en c9, .slice (some ⟨b8, 0, none⟩) on c8]) rfl rfl ag31 rfl (fun _ e => c_217.on e (by omega)) rfl ?_
            refine l_call (Keep.evo rgr_225_13 noX) rfl (number_c w13 kind 2 (by decide) (by decide) (by omega) (by omega)) en9 rfl rfl (fun v_226 w14 s14 q_227 => ?_)
            have e0_14 : Evo M w w14 := e0_13.trans s14.no
            have e1_14 : Evo M w1 w14 := e1_13.trans s14.no
            have e4_14 : Evo (Plus M bmn_10) w4 w14 := e4_13.trans s14.no
            have e5_14 : Evo (Plus M bmn_10) w5 w14 := e5_13.trans s14.no
            have e6_14 : Evo (Plus (Plus M bmn_10) b8) w6 w14 := e6_13.trans s14.no
            have e7_14 : Evo (Plus (Plus (Plus M bmn_10) b8) k_35) w7 w14 := e7_13.trans s14.no
            have eN_14 : Evo (Plus M bmn_10) w11 w14 := eN_13.trans s14.no
            have e12_14 : Evo (Plus M bmn_10) w12 w14 := e12_13.trans s14.no
            have z14 : Evo No w w14 := z13.trans s14.no
            have c_228 := c_221.no s14
            have O_229 := O_222.no s14
            have O_230 := O_223.no s14
            have V_231 := V_224.no s14
            have rgr_225_14 : Evo (· = bmn_10) w12 w14 := rgr_225_13.trans s14.no
            obtain rfl := q_227
            refine q_add rfl rfl rfl (wi64 (by omega) (by omega)) ?_
            refine q_build (.agg (List.toArray [.int .i64 ((kind % 2) + 2), .int .i64 m.id, .int .i64 m.base, .int .i64 m.end_, .int .i64 m.time, .slice a9 en c9, .slice (some ⟨b8, 0, none⟩) on c8])) rfl rfl (fun _ => by kernel_rfl) ?_
            have hE2 : applyErr [(1, m)] ((kind % 2) + 2) ({ m with objects := m.objects.set 0 { ob with len := xorI .i64 ob.len 1 } } : Mani) ≠ .ok := apply_other hcm rfl
            have hl2 : applyV [(1, m)] ((kind % 2) + 2) ({ m with objects := m.objects.set 0 { ob with len := xorI .i64 ob.len 1 } } : Mani) = [(1, m)] := if_neg hE2
            refine l_call (Keep.evo rgr_225_14 (inX rfl)) rfl (vApply_c (M := (Plus M bmn_10)) w14 (oN.on eN_14) bl (At.up (N := (Plus M bmn_10)) hG e0_14 (fun x0 h1 h0 => by rcases h0 with (h0 | h0) <;> first | exact h0 | omega)) bvn_10 bmn_10 [(1, m)] V_231 ((kind % 2) + 2) ({ m with objects := m.objects.set 0 { ob with len := xorI .i64 ob.len 1 } } : Mani) _ _ _ _ _ _ (O_229.at_ (own_notM (oVn_10.on e4_5) lo9)) (O_230.at_ (own_notM (oVn_10.on e4_5) lo8)) (by omega) (by omega)) en11 rfl rfl (fun v_233 w15 s15 q_234 => ?_)
            have e0_15 : Evo M w w15 := e0_14.fresh s15 lbmn_10_0
            have e1_15 : Evo M w1 w15 := e1_14.fresh s15 lbmn_10_1
            have e4_15 : Evo (Plus M bmn_10) w4 w15 := e4_14.fstep s15 (inX Plus.in)
            have e5_15 : Evo (Plus M bmn_10) w5 w15 := e5_14.fstep s15 (inX Plus.in)
            have e6_15 : Evo (Plus (Plus M bmn_10) b8) w6 w15 := e6_14.fstep s15 (inX (Plus.old Plus.in))
            have e7_15 : Evo (Plus (Plus (Plus M bmn_10) b8) k_35) w7 w15 := e7_14.fstep s15 (inX (Plus.old (Plus.old Plus.in)))
            have eN_15 : Evo (Plus M bmn_10) w11 w15 := eN_14.fstep s15 (inX Plus.in)
            have e12_15 : Evo (Plus M bmn_10) w12 w15 := e12_14.fstep s15 (inX Plus.in)
            have z15 : Evo No w w15 := z14.fresh s15 lbmn_10_w
            have c_235 := c_228.on s15 (by first | omega | (intro h0; subst h0; omega))
            have O_236 := O_229.on s15 (fun b hb e0 => absurd (lo9 b hb) (by omega))
            have O_237 := O_230.on s15 (fun b hb e0 => absurd (lo8 b hb) (by omega))
            have rgr_225_15 : Evo (· = bmn_10) w12 w15 := rgr_225_14.fstep s15 (inX rfl)
            obtain ⟨E_232, V_239⟩ := q_234
            rw [hl2] at V_239
            refine q_assign (v := v_233) rfl rfl ?_
            refine done ?_
            refine thenN ?_
            refine seq ?_
            refine regionD (· = bmn_10) (.q 0 (.q 1 (.q 2 (.q 3 (.q 5 (.l 4 (.l 6 (.q 7 (.q 8 (.q 9 (.q 10 (.q 11 (.l 12 (.q 13 (.q 14 (.q 15 (.q 16 (.q 17 (.q 20 (.l 18 (.q 19 (.q 21 (.l 22 (.q 23 (.q 24 (.q 25 (.nil))))))))))))))))))))))))))) mixed (by kernel_rfl) (by kernel_rfl) (by kernel_rfl) (fun w16 s16 => ?_)
            have e0_16 : Evo M w w16 := e0_15.trans s16.no
            have e1_16 : Evo M w1 w16 := e1_15.trans s16.no
            have e4_16 : Evo (Plus M bmn_10) w4 w16 := e4_15.trans s16.no
            have e5_16 : Evo (Plus M bmn_10) w5 w16 := e5_15.trans s16.no
            have e6_16 : Evo (Plus (Plus M bmn_10) b8) w6 w16 := e6_15.trans s16.no
            have e7_16 : Evo (Plus (Plus (Plus M bmn_10) b8) k_35) w7 w16 := e7_15.trans s16.no
            have eN_16 : Evo (Plus M bmn_10) w11 w16 := eN_15.trans s16.no
            have e12_16 : Evo (Plus M bmn_10) w12 w16 := e12_15.trans s16.no
            have e15_16 : Evo (Plus M bmn_10) w15 w16 := s16.no
            have z16 : Evo No w w16 := z15.trans s16.no
            have c_240 := c_235.no s16
            have O_241 := O_236.no s16
            have O_242 := O_237.no s16
            have V_243 := V_239.no s16
            have rgr_244_16 : Evo (· = bmn_10) w15 w16 := s16.no
            refine q_move (v := v_233) rfl rfl ?_
            rcases ErIs.cases E_232.here with ⟨h_245, rfl⟩ | ⟨h_245, t_246, u_247, rfl⟩
            · skip
              exact absurd h_245 hE2
            · skip
              refine q_ifNeq rfl rfl if34 ?_
              refine q_move (v := .bool true) rfl rfl ?_
              refine q_move (v := .pointer (some ⟨bvn_10, 0, none⟩)) rfl rfl ?_
              refine q_move (v := .slice ay_214 ny_214 cy_214) rfl rfl ?_
              refine l_call (Keep.evo rgr_244_16 noX) rfl (vBytes_c (M := (Plus M bmn_10)) w16 (oN.on eN_16) bl (At.up (N := (Plus M bmn_10)) hG e0_16 (fun x0 h1 h0 => by rcases h0 with (h0 | h0) <;> first | exact h0 | omega)) bvn_10 bmn_10 [(1, m)] V_243 (fun q hq => by rw [List.mem_singleton] at hq; subst hq; exact A1.1) (by simp)) en18 rfl rfl (fun v_249 w17 s17 q_250 => ?_)
              have e0_17 : Evo M w w17 := e0_16.trans s17.no
              have e1_17 : Evo M w1 w17 := e1_16.trans s17.no
              have e4_17 : Evo (Plus M bmn_10) w4 w17 := e4_16.trans s17.no
              have e5_17 : Evo (Plus M bmn_10) w5 w17 := e5_16.trans s17.no
              have e6_17 : Evo (Plus (Plus M bmn_10) b8) w6 w17 := e6_16.trans s17.no
              have e7_17 : Evo (Plus (Plus (Plus M bmn_10) b8) k_35) w7 w17 := e7_16.trans s17.no
              have eN_17 : Evo (Plus M bmn_10) w11 w17 := eN_16.trans s17.no
              have e12_17 : Evo (Plus M bmn_10) w12 w17 := e12_16.trans s17.no
              have e15_17 : Evo (Plus M bmn_10) w15 w17 := e15_16.trans s17.no
              have z17 : Evo No w w17 := z16.trans s17.no
              have c_251 := c_240.no s17
              have O_252 := O_241.no s17
              have O_253 := O_242.no s17
              have V_254 := V_243.no s17
              have rgr_244_17 : Evo (· = bmn_10) w15 w17 := rgr_244_16.trans s17.no
              obtain ⟨ay_248, ny_248, cy_248, rfl, Oy_248, loy_248, hny_248⟩ := q_250
              have hBy_248 : At (Plus M bmn_10) w17 (Sl 1 ((viewB [(1, m)]).map encB) ay_248 ny_248 cy_248) := Oy_248.at_ (own_notM (oN.on eN_16) loy_248)
              refine l_call (Keep.evo rgr_244_17 noX) rfl (sameBytes_c (M := (Plus M bmn_10)) w17 (viewB [(1, m)]) _ _ _ _ _ _ (hBy_248.on (Evo.refl (Plus M bmn_10) _)) (hBy_214.on e12_17) hny_248) en19 rfl rfl (fun v_255 w18 s18 q_256 => ?_)
              have e0_18 : Evo M w w18 := e0_17.trans s18.no
              have e1_18 : Evo M w1 w18 := e1_17.trans s18.no
              have e4_18 : Evo (Plus M bmn_10) w4 w18 := e4_17.trans s18.no
              have e5_18 : Evo (Plus M bmn_10) w5 w18 := e5_17.trans s18.no
              have e6_18 : Evo (Plus (Plus M bmn_10) b8) w6 w18 := e6_17.trans s18.no
              have e7_18 : Evo (Plus (Plus (Plus M bmn_10) b8) k_35) w7 w18 := e7_17.trans s18.no
              have eN_18 : Evo (Plus M bmn_10) w11 w18 := eN_17.trans s18.no
              have e12_18 : Evo (Plus M bmn_10) w12 w18 := e12_17.trans s18.no
              have e15_18 : Evo (Plus M bmn_10) w15 w18 := e15_17.trans s18.no
              have e17_18 : Evo (Plus M bmn_10) w17 w18 := s18.no
              have z18 : Evo No w w18 := z17.trans s18.no
              have c_257 := c_251.no s18
              have O_258 := O_252.no s18
              have O_259 := O_253.no s18
              have V_260 := V_254.no s18
              have rgr_244_18 : Evo (· = bmn_10) w15 w18 := rgr_244_17.trans s18.no
              obtain rfl := q_256
              refine q_pick_t (v := .bool true) rfl rfl rfl ?_
              refine q_move (v := .bool true) rfl rfl ?_
              refine q_move (v := .pointer (some ⟨bvn_10, 0, none⟩)) rfl rfl ?_
              refine q_fieldAddr rfl rfl fl31_0 ?_
              refine q_loadB rfl rfl pl3 (fk_1.via e1_15 (freshX lbmn_10_1)) rfl ?_
              refine l_call (Keep.evo rgr_244_18 noX) rfl (vState_c (M := (Plus M bmn_10)) w18 (oN.on eN_18) bvn_10 bmn_10 ([(1, m)]) V_260 m.id) en14 rfl rfl (fun v_261 w19 s19 q_262 => ?_)
              have e0_19 : Evo M w w19 := e0_18.trans s19.no
              have e1_19 : Evo M w1 w19 := e1_18.trans s19.no
              have e4_19 : Evo (Plus M bmn_10) w4 w19 := e4_18.trans s19.no
              have e5_19 : Evo (Plus M bmn_10) w5 w19 := e5_18.trans s19.no
              have e6_19 : Evo (Plus (Plus M bmn_10) b8) w6 w19 := e6_18.trans s19.no
              have e7_19 : Evo (Plus (Plus (Plus M bmn_10) b8) k_35) w7 w19 := e7_18.trans s19.no
              have eN_19 : Evo (Plus M bmn_10) w11 w19 := eN_18.trans s19.no
              have e12_19 : Evo (Plus M bmn_10) w12 w19 := e12_18.trans s19.no
              have e15_19 : Evo (Plus M bmn_10) w15 w19 := e15_18.trans s19.no
              have e17_19 : Evo (Plus M bmn_10) w17 w19 := e17_18.trans s19.no
              have z19 : Evo No w w19 := z18.trans s19.no
              have c_263 := c_257.no s19
              have O_264 := O_258.no s19
              have O_265 := O_259.no s19
              have V_266 := V_260.no s19
              have rgr_244_19 : Evo (· = bmn_10) w15 w19 := rgr_244_18.trans s19.no
              obtain rfl := q_262
              refine q_eql rfl rfl rfl ?_
              refine q_pick_t (v := .bool (decide (stateOf ([(1, m)]) m.id = 1))) rfl rfl rfl ?_
              refine q_move (v := .bool (decide (stateOf ([(1, m)]) m.id = 1))) rfl rfl ?_
              refine q_move (v := .pointer (some ⟨bvn_10, 0, none⟩)) (gtt (decide_eq_true (state_same m))) rfl ?_
              refine q_move (v := .int .i64 kind) (gtt (decide_eq_true (state_same m))) rfl ?_
              refine q_loadBN ([.int .i64 m.id, .int .i64 m.base, .int .i64 m.end_, .int .i64 m.time, .slice ea en ec, .slice oa on oc]) (gtt (decide_eq_true (state_same m))) rfl ag31 rfl (fk_1.via e1_15 (freshX lbmn_10_1)) rfl ?_
              refine l_call (Keep.evo rgr_244_19 noX) (gtt (decide_eq_true (state_same m))) (number_c w19 kind 2 (by decide) (by decide) (by omega) (by omega)) en9 rfl rfl (fun v_267 w20 s20 q_268 => ?_)
              have e0_20 : Evo M w w20 := e0_19.trans s20.no
              have e1_20 : Evo M w1 w20 := e1_19.trans s20.no
              have e4_20 : Evo (Plus M bmn_10) w4 w20 := e4_19.trans s20.no
              have e5_20 : Evo (Plus M bmn_10) w5 w20 := e5_19.trans s20.no
              have e6_20 : Evo (Plus (Plus M bmn_10) b8) w6 w20 := e6_19.trans s20.no
              have e7_20 : Evo (Plus (Plus (Plus M bmn_10) b8) k_35) w7 w20 := e7_19.trans s20.no
              have eN_20 : Evo (Plus M bmn_10) w11 w20 := eN_19.trans s20.no
              have e12_20 : Evo (Plus M bmn_10) w12 w20 := e12_19.trans s20.no
              have e15_20 : Evo (Plus M bmn_10) w15 w20 := e15_19.trans s20.no
              have e17_20 : Evo (Plus M bmn_10) w17 w20 := e17_19.trans s20.no
              have z20 : Evo No w w20 := z19.trans s20.no
              have c_269 := c_263.no s20
              have O_270 := O_264.no s20
              have O_271 := O_265.no s20
              have V_272 := V_266.no s20
              have rgr_244_20 : Evo (· = bmn_10) w15 w20 := rgr_244_19.trans s20.no
              obtain rfl := q_268
              refine q_add (gtt (decide_eq_true (state_same m))) rfl rfl (wi64 (by omega) (by omega)) ?_
              refine q_build (.agg (List.toArray [.int .i64 ((kind % 2) + 2), .int .i64 m.id, .int .i64 m.base, .int .i64 m.end_, .int .i64 m.time, .slice ea en ec, .slice oa on oc])) (gtt (decide_eq_true (state_same m))) rfl (fun _ => by kernel_rfl) ?_
              have hE3 : applyErr [(1, m)] ((kind % 2) + 2) m = .ok := apply_same A1.1 (by omega) (by omega)
              refine l_call (Keep.evo rgr_244_20 (inX rfl)) (gtt (decide_eq_true (state_same m))) (vApply_c (M := (Plus M bmn_10)) w20 (oN.on eN_20) bl (At.up (N := (Plus M bmn_10)) hG e0_20 (fun x0 h1 h0 => by rcases h0 with (h0 | h0) <;> first | exact h0 | omega)) bvn_10 bmn_10 ([(1, m)]) V_272 ((kind % 2) + 2) m _ _ _ _ _ _ (At.up (N := (Plus M bmn_10)) he e0_20 (fun x0 h1 h0 => by rcases h0 with (h0 | h0) <;> first | exact h0 | omega)) (At.up (N := (Plus M bmn_10)) ho e0_20 (fun x0 h1 h0 => by rcases h0 with (h0 | h0) <;> first | exact h0 | omega)) (by omega) (by omega)) en11 rfl rfl (fun v_274 w21 s21 q_275 => ?_)
              have e0_21 : Evo M w w21 := e0_20.fresh s21 lbmn_10_0
              have e1_21 : Evo M w1 w21 := e1_20.fresh s21 lbmn_10_1
              have e4_21 : Evo (Plus M bmn_10) w4 w21 := e4_20.fstep s21 (inX Plus.in)
              have e5_21 : Evo (Plus M bmn_10) w5 w21 := e5_20.fstep s21 (inX Plus.in)
              have e6_21 : Evo (Plus (Plus M bmn_10) b8) w6 w21 := e6_20.fstep s21 (inX (Plus.old Plus.in))
              have e7_21 : Evo (Plus (Plus (Plus M bmn_10) b8) k_35) w7 w21 := e7_20.fstep s21 (inX (Plus.old (Plus.old Plus.in)))
              have eN_21 : Evo (Plus M bmn_10) w11 w21 := eN_20.fstep s21 (inX Plus.in)
              have e12_21 : Evo (Plus M bmn_10) w12 w21 := e12_20.fstep s21 (inX Plus.in)
              have e15_21 : Evo (Plus M bmn_10) w15 w21 := e15_20.fstep s21 (inX Plus.in)
              have e17_21 : Evo (Plus M bmn_10) w17 w21 := e17_20.fstep s21 (inX Plus.in)
              have z21 : Evo No w w21 := z20.fresh s21 lbmn_10_w
              have c_276 := c_269.on s21 (by first | omega | (intro h0; subst h0; omega))
              have O_277 := O_270.on s21 (fun b hb e0 => absurd (lo9 b hb) (by omega))
              have O_278 := O_271.on s21 (fun b hb e0 => absurd (lo8 b hb) (by omega))
              have rgr_244_21 : Evo (· = bmn_10) w15 w21 := rgr_244_20.fstep s21 (inX rfl)
              obtain ⟨E_273, V_280⟩ := q_275
              rcases ErIs.cases E_273.here with ⟨h_281, rfl⟩ | ⟨h_281, t_282, u_283, rfl⟩
              · skip
                refine q_nilEql (gtt (decide_eq_true (state_same m))) rfl if34 ?_
                refine q_pick_bt (v := .bool true) rfl rfl (decide_eq_true (state_same m)) rfl ?_
                refine q_assign (v := .bool true) rfl rfl ?_
                refine done ?_
                refine thenN ?_
                refine wp_ret ?_
                refine ret1v (.bool true) rfl rfl ?_
                exact ⟨z21, rfl⟩
              · skip
                exact absurd hE3 h_281
      · skip
        refine q_ifNeq rfl rfl if34 ?_
        refine q_pick_f (v := .bool true) rfl rfl rfl ?_
        refine done ?_
        refine thenN ?_
        refine cond_t rfl ?_
        refine seq ?_
        refine region [true, true, true] ?_
        refine q_move (v := .pointer (some ⟨bvn_10, 0, none⟩)) rfl rfl ?_
        refine q_ptrNilNe rfl rfl pt24 ?_
        refine q_assign (v := .bool true) rfl rfl ?_
        refine done ?_
        refine thenN ?_
        refine wp_ret ?_
        refine thenR ?_
        refine ret1v (.bool true) rfl rfl ?_
        exact ⟨z5, rfl⟩
end Go.Proofs.YtnkafkikjcgogaaDoor
