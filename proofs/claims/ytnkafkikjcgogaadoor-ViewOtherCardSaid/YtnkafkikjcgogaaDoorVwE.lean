import Derived.Test.YtnkafkikjcgogaaDoorSxi
import Derived.Test.YtnkafkikjcgogaaDoorProg
import Derived.Test.YtnkafkikjcgogaaDoorVw3
import Derived.Test.YtnkafkikjcgogaaDoorVwD
/- Closed facts on the translation. -/
set_option maxRecDepth 100000
set_option linter.unusedVariables false
set_option linter.unusedSimpArgs false
namespace Go.Proofs.YtnkafkikjcgogaaDoor.FE
open Go.Sx
theorem mixed : Tryd.prog.follows .mixedOrders = true := by kernel_rfl
theorem ag31 : aggB Tryd.prog 31 = some 6 := by kernel_rfl
theorem ag46 : aggB Tryd.prog 46 = some 3 := by kernel_rfl
theorem ag61 : aggB Tryd.prog 61 = some 2 := by kernel_rfl
theorem ap49 : appB Tryd.prog 49 = some (5, 1, 1) := by kernel_rfl
theorem el28 : elemB Tryd.prog 28 = some (61, 2) := by kernel_rfl
theorem el29 : elemB Tryd.prog 29 = some (46, 3) := by kernel_rfl
theorem en21 : entB Tryd.prog 21 = true := by kernel_rfl
theorem en36 : entB Tryd.prog 36 = true := by kernel_rfl
theorem en40 : entB Tryd.prog 40 = true := by kernel_rfl
theorem en63 : entB Tryd.prog 63 = true := by kernel_rfl
theorem fl31_0 : fldB Tryd.prog 31 0 = some 0 := by kernel_rfl
theorem fl31_1 : fldB Tryd.prog 31 1 = some 1 := by kernel_rfl
theorem fl31_2 : fldB Tryd.prog 31 2 = some 2 := by kernel_rfl
theorem fl31_3 : fldB Tryd.prog 31 3 = some 3 := by kernel_rfl
theorem fl31_4 : fldB Tryd.prog 31 4 = some 4 := by kernel_rfl
theorem fl31_5 : fldB Tryd.prog 31 5 = some 5 := by kernel_rfl
theorem fl46_0 : fldB Tryd.prog 46 0 = some 0 := by kernel_rfl
theorem fl46_1 : fldB Tryd.prog 46 1 = some 1 := by kernel_rfl
theorem fl46_2 : fldB Tryd.prog 46 2 = some 2 := by kernel_rfl
theorem fl61_0 : fldB Tryd.prog 61 0 = some 0 := by kernel_rfl
theorem fl61_1 : fldB Tryd.prog 61 1 = some 1 := by kernel_rfl
theorem if34 : ifaceB Tryd.prog 34 = true := by kernel_rfl
theorem in2 : Tryd.prog.underlying 2 = some (.int .i64) := by kernel_rfl
theorem in3 : Tryd.prog.underlying 3 = some (.int .i64) := by kernel_rfl
theorem in44 : Tryd.prog.underlying 44 = some (.int .u32) := by kernel_rfl
theorem in81 : Tryd.prog.underlying 81 = some (.int .u64) := by kernel_rfl
theorem pl2 : plainB Tryd.prog 2 = true := by kernel_rfl
theorem pl28 : plainB Tryd.prog 28 = true := by kernel_rfl
theorem pl29 : plainB Tryd.prog 29 = true := by kernel_rfl
theorem pl3 : plainB Tryd.prog 3 = true := by kernel_rfl
theorem pl44 : plainB Tryd.prog 44 = true := by kernel_rfl
theorem pl9 : plainB Tryd.prog 9 = true := by kernel_rfl
theorem st9 : Tryd.prog.underlying 9 = some .string := by kernel_rfl
theorem sz46 : szB Tryd.prog 46 = some 3 := by kernel_rfl
theorem sz61 : szB Tryd.prog 61 = some 2 := by kernel_rfl
theorem ze46 : zeroB Tryd.prog 46 = some [.string (⟨#[]⟩ : ByteArray), .int .i64 0, .int .u32 0] := by kernel_rfl
theorem ze61 : zeroB Tryd.prog 61 = some [.int .i64 0, .int .i64 0] := by kernel_rfl
end Go.Proofs.YtnkafkikjcgogaaDoor.FE

set_option linter.unusedVariables false
set_option linter.unusedSimpArgs false
set_option maxRecDepth 4000
set_option maxHeartbeats 2000000
namespace Go.Proofs.YtnkafkikjcgogaaDoor
open Go.Sx FE

theorem putInt_c {M : Nat → Prop} (w : World) (hM : Old M w) (bs : List UInt8) (a : Option Addr) (m c : Nat) (h : At M w (Sl 1 (bs.map encB) a m c)) (hn : m ≤ 1073741824) (n : Int) :
    Calls Tryd.prog 63 (List.toArray [.slice a m c, .int .i64 n]) w (Ret No w fun v w9 => ∃ a9 n9 c9, v = .slice a9 n9 c9 ∧ Own 1 5 ((bs ++ iB n).map encB) a9 n9 c9 w9 ∧ ∀ b, OwnB a9 b → w.heap.size ≤ b) := by
  refine enter (n := 14) [(0, .slice a m c), (1, .int .i64 n)] Tryd.func63 rfl (by kernel_rfl) ?_
  refine seq ?_
  refine region [true] ?_
  refine q_assign (v := .slice none 0 0) rfl rfl ?_
  refine done ?_
  refine thenN ?_
  refine seq ?_
  refine region [true, true, true, true, true, true, true, true, false, true] ?_
  refine q_move (v := .slice a m c) rfl rfl ?_
  refine q_move (v := .int .i64 n) rfl rfl ?_
  refine q_bvOf (k := .u64) n rfl rfl rfl in2 in81 ?_
  refine q_bvShl (k := .u64) rfl (BitVec.ofInt 64 n) 1 (by decide) rfl rfl rfl ?_
  refine q_move (v := .int .i64 n) rfl rfl ?_
  refine q_bin (v := .int .i64 (n.fdiv 9223372036854775808)) rfl rfl rfl rfl (fun _ => rfl) ?_
  refine q_bvOf (k := .u64) (n.fdiv 9223372036854775808) rfl rfl rfl in2 in81 ?_
  refine q_bvXor (k := .u64) rfl ((BitVec.ofInt 64 n) <<< 1) (BitVec.ofInt 64 (n.fdiv 9223372036854775808)) rfl rfl rfl ?_
  refine l_call Keep.any rfl (put_c (M := M) w hM bs a m c (h.on (Evo.refl M _)) hn (zzB n)) en36 rfl rfl (fun v_1 w1 s1 q_2 => ?_)
  have e0_1 : Evo M w w1 := s1.no
  have z1 : Evo No w w1 := s1.no
  obtain ⟨a1, n1, c1, rfl, O1, lo1⟩ := q_2
  have lo_3 := own_up lo1 (Evo.refl M _).size
  have lo_4 : ∀ b, OwnB a1 b → w.heap.size ≤ b := lo1
  refine q_assign (v := .slice a1 n1 c1) rfl rfl ?_
  refine done ?_
  refine thenN ?_
  refine wp_ret ?_
  refine ret1v (.slice a1 n1 c1) rfl rfl ?_
  exact ⟨z1, _, _, _, rfl, O1, lo_4⟩

theorem maniBytes_c {M : Nat → Prop} (w : World) (hM : Old M w) (bl : Nat → Addr) (hG : At M w (Gl bl)) (m : Mani) (ea : Option Addr) (en ec : Nat) (oa : Option Addr) (on oc : Nat) (he : At M w (Sl 2 (m.epochs.map encP) ea en ec)) (ho : At M w (Sl 3 (m.objects.map encO) oa on oc)) (eN : en ≤ 1048576) (oN : on ≤ 1048576) (hok : maniErr m = .ok) (hes : m.epochs.length ≤ 256) (hos : m.objects.length ≤ 8) (hns : ∀ o ∈ m.objects, o.name.size ≤ 64) :
    Calls Tryd.prog 39 (List.toArray [.agg (List.toArray [.int .i64 m.id, .int .i64 m.base, .int .i64 m.end_, .int .i64 m.time, .slice ea en ec, .slice oa on oc])]) w (Ret No w fun v w9 => ∃ a9 n9 c9, v = .tuple #[.slice a9 n9 c9, .nilIface] ∧ Own 1 5 ((maniB m).map encB) a9 n9 c9 w9 ∧ (∀ b, OwnB a9 b → w.heap.size ≤ b) ∧ n9 ≤ 10000) := by
  refine enter (n := 91) [(0, .agg (List.toArray [.int .i64 m.id, .int .i64 m.base, .int .i64 m.end_, .int .i64 m.time, .slice ea en ec, .slice oa on oc]))] Tryd.func39 rfl (by kernel_rfl) ?_
  have OK := hok
  have hel := he.here.len
  rw [List.length_map] at hel
  have hol := ho.here.len
  rw [List.length_map] at hol
  refine seq ?_
  refine region [false, true, true] ?_
  refine l_box (M := M) Keep.any hM rfl rfl (fun k_1 w1 s1 fk_1 nk_1 => ?_)
  have e0_1 : Evo M w w1 := s1.no
  have z1 : Evo No w w1 := s1.no
  refine q_assign (v := .slice none 0 0) rfl rfl ?_
  refine q_assign (v := .nilIface) rfl rfl ?_
  refine done ?_
  refine thenN ?_
  refine seq ?_
  refine seq ?_
  refine region [false, false, true] ?_
  refine l_loadBN ([.int .i64 m.id, .int .i64 m.base, .int .i64 m.end_, .int .i64 m.time, .slice ea en ec, .slice oa on oc]) trivial rfl rfl ag31 rfl (fk_1.now (Evo.refl M _)) rfl ?_
  refine l_call Keep.any rfl (maniValid_c (M := M) w1 (hM.on z1) bl (hG.on e0_1) m _ _ _ _ _ _ (he.on e0_1) (ho.on e0_1) eN oN) en21 rfl rfl (fun v_5 w2 s2 q_6 => ?_)
  have e0_2 : Evo M w w2 := e0_1.trans s2.no
  have e1_2 : Evo M w1 w2 := s2.no
  have z2 : Evo No w w2 := z1.trans s2.no
  have E_3 := q_6
  refine q_assign (v := v_5) rfl rfl ?_
  refine done ?_
  refine thenN ?_
  refine seq ?_
  refine region [true, true] ?_
  refine q_move (v := v_5) rfl rfl ?_
  rcases ErIs.cases E_3.here with ⟨h_7, rfl⟩ | ⟨h_7, t_8, u_9, rfl⟩
  · skip
    refine q_nilNeq rfl rfl if34 ?_
    refine done ?_
    refine thenN ?_
    refine cond_f rfl ?_
    refine wp_skip ?_
    refine thenN ?_
    refine seq ?_
    refine region [true, false, true, false, true] ?_
    refine q_fieldAddr rfl rfl fl31_0 ?_
    refine l_loadB trivial rfl rfl pl3 (fk_1.now e1_2) rfl ?_
    refine q_bvOf (k := .u64) m.id rfl rfl rfl in3 in81 ?_
    refine l_call Keep.any rfl (put_c (M := M) w2 (hM.on z2) ([]) none 0 0 (fun w9 _ => Sl.nul 1 w9) (by omega) (BitVec.ofInt 64 m.id)) en36 rfl rfl (fun v_15 w3 s3 q_16 => ?_)
    have e0_3 : Evo M w w3 := e0_2.trans s3.no
    have e1_3 : Evo M w1 w3 := e1_2.trans s3.no
    have e2_3 : Evo M w2 w3 := s3.no
    have z3 : Evo No w w3 := z2.trans s3.no
    obtain ⟨a_10, n_11, c_12, rfl, O_13, lo_14⟩ := q_16
    have lo_17 := own_up lo_14 e0_2.size
    have lo_18 := own_up lo_14 e1_2.size
    have lo_19 := own_up lo_14 (Evo.refl M _).size
    have lo_20 : ∀ b, OwnB a_10 b → w.heap.size ≤ b := own_up lo_14 z2.size
    have hb_n_11 : n_11 ≤ 0 + 10 := put_bd (bs := ([])) O_13 (by simp) (putN_len10 (BitVec.isLt _))
    refine q_assign (v := .slice a_10 n_11 c_12) rfl rfl ?_
    refine done ?_
    refine thenN ?_
    refine seq ?_
    refine region [true, true, false, true, false, true] ?_
    refine q_move (v := .slice a_10 n_11 c_12) rfl rfl ?_
    refine q_fieldAddr rfl rfl fl31_1 ?_
    refine l_loadB trivial rfl rfl pl2 (fk_1.now e1_3) rfl ?_
    refine q_bvOf (k := .u64) m.base rfl rfl rfl in2 in81 ?_
    have hl_n_22 : n_11 = (([]) ++ (nB m.id)).length := by have h0 := O_13.len; rw [List.length_map] at h0; exact h0
    refine l_call Keep.any rfl (put_c (M := M) w3 (hM.on z3) (([]) ++ (nB m.id)) a_10 n_11 c_12 (O_13.at_ (own_notM hM lo_20)) (by omega) (BitVec.ofInt 64 m.base)) en36 rfl rfl (fun v_26 w4 s4 q_27 => ?_)
    have e0_4 : Evo M w w4 := e0_3.trans s4.no
    have e1_4 : Evo M w1 w4 := e1_3.trans s4.no
    have e2_4 : Evo M w2 w4 := e2_3.trans s4.no
    have z4 : Evo No w w4 := z3.trans s4.no
    have O_28 := O_13.no s4
    obtain ⟨a_21, n_22, c_23, rfl, O_24, lo_25⟩ := q_27
    have lo_29 := own_up lo_25 e0_3.size
    have lo_30 := own_up lo_25 e1_3.size
    have lo_31 := own_up lo_25 e2_3.size
    have lo_32 : ∀ b, OwnB a_21 b → w.heap.size ≤ b := own_up lo_25 z3.size
    have hb_n_22 : n_22 ≤ 0 + 10 + 10 := put_bd (bs := (([]) ++ (nB m.id))) O_24 (by omega) (putN_len10 (BitVec.isLt _))
    refine q_assign (v := .slice a_21 n_22 c_23) rfl rfl ?_
    refine done ?_
    refine thenN ?_
    refine seq ?_
    refine region [true, true, false, true, false, true] ?_
    refine q_move (v := .slice a_21 n_22 c_23) rfl rfl ?_
    refine q_fieldAddr rfl rfl fl31_2 ?_
    refine l_loadB trivial rfl rfl pl2 (fk_1.now e1_4) rfl ?_
    refine q_bvOf (k := .u64) m.end_ rfl rfl rfl in2 in81 ?_
    have hl_n_34 : n_22 = ((([]) ++ (nB m.id)) ++ (nB m.base)).length := by have h0 := O_24.len; rw [List.length_map] at h0; exact h0
    refine l_call Keep.any rfl (put_c (M := M) w4 (hM.on z4) ((([]) ++ (nB m.id)) ++ (nB m.base)) a_21 n_22 c_23 (O_24.at_ (own_notM hM lo_32)) (by omega) (BitVec.ofInt 64 m.end_)) en36 rfl rfl (fun v_38 w5 s5 q_39 => ?_)
    have e0_5 : Evo M w w5 := e0_4.trans s5.no
    have e1_5 : Evo M w1 w5 := e1_4.trans s5.no
    have e2_5 : Evo M w2 w5 := e2_4.trans s5.no
    have z5 : Evo No w w5 := z4.trans s5.no
    have O_40 := O_24.no s5
    obtain ⟨a_33, n_34, c_35, rfl, O_36, lo_37⟩ := q_39
    have lo_41 := own_up lo_37 e0_4.size
    have lo_42 := own_up lo_37 e1_4.size
    have lo_43 := own_up lo_37 e2_4.size
    have lo_44 : ∀ b, OwnB a_33 b → w.heap.size ≤ b := own_up lo_37 z4.size
    have hb_n_34 : n_34 ≤ 0 + 10 + 10 + 10 := put_bd (bs := ((([]) ++ (nB m.id)) ++ (nB m.base))) O_36 (by omega) (putN_len10 (BitVec.isLt _))
    refine q_assign (v := .slice a_33 n_34 c_35) rfl rfl ?_
    refine done ?_
    refine thenN ?_
    refine seq ?_
    refine region [true, true, false, false, true] ?_
    refine q_move (v := .slice a_33 n_34 c_35) rfl rfl ?_
    refine q_fieldAddr rfl rfl fl31_3 ?_
    refine l_loadB trivial rfl rfl pl2 (fk_1.now e1_5) rfl ?_
    have hl_n_46 : n_34 = (((([]) ++ (nB m.id)) ++ (nB m.base)) ++ (nB m.end_)).length := by have h0 := O_36.len; rw [List.length_map] at h0; exact h0
    refine l_call Keep.any rfl (putInt_c (M := M) w5 (hM.on z5) (((([]) ++ (nB m.id)) ++ (nB m.base)) ++ (nB m.end_)) a_33 n_34 c_35 (O_36.at_ (own_notM hM lo_44)) (by omega) m.time) en63 rfl rfl (fun v_50 w6 s6 q_51 => ?_)
    have e0_6 : Evo M w w6 := e0_5.trans s6.no
    have e1_6 : Evo M w1 w6 := e1_5.trans s6.no
    have e2_6 : Evo M w2 w6 := e2_5.trans s6.no
    have z6 : Evo No w w6 := z5.trans s6.no
    have O_52 := O_36.no s6
    obtain ⟨a_45, n_46, c_47, rfl, O_48, lo_49⟩ := q_51
    have lo_53 := own_up lo_49 e0_5.size
    have lo_54 := own_up lo_49 e1_5.size
    have lo_55 := own_up lo_49 e2_5.size
    have lo_56 : ∀ b, OwnB a_45 b → w.heap.size ≤ b := own_up lo_49 z5.size
    have hb_n_46 : n_46 ≤ 0 + 10 + 10 + 10 + 10 := put_bd (bs := (((([]) ++ (nB m.id)) ++ (nB m.base)) ++ (nB m.end_))) O_48 (by omega) (iB_len _)
    refine q_assign (v := .slice a_45 n_46 c_47) rfl rfl ?_
    refine done ?_
    refine thenN ?_
    refine seq ?_
    refine region [true, true, false, true, true, false, true] ?_
    refine q_move (v := .slice a_45 n_46 c_47) rfl rfl ?_
    refine q_fieldAddr rfl rfl fl31_4 ?_
    refine l_loadB trivial rfl rfl pl28 (fk_1.now e1_6) rfl ?_
    refine q_len rfl rfl el28 ?_
    refine q_bvOf (k := .u64) (en : Int) rfl rfl rfl in3 in81 ?_
    have hl_n_58 : n_46 = ((((([]) ++ (nB m.id)) ++ (nB m.base)) ++ (nB m.end_)) ++ iB m.time).length := by have h0 := O_48.len; rw [List.length_map] at h0; exact h0
    refine l_call Keep.any rfl (put_c (M := M) w6 (hM.on z6) ((((([]) ++ (nB m.id)) ++ (nB m.base)) ++ (nB m.end_)) ++ iB m.time) a_45 n_46 c_47 (O_48.at_ (own_notM hM lo_56)) (by omega) (BitVec.ofInt 64 (en : Int))) en36 rfl rfl (fun v_62 w7 s7 q_63 => ?_)
    have e0_7 : Evo M w w7 := e0_6.trans s7.no
    have e1_7 : Evo M w1 w7 := e1_6.trans s7.no
    have e2_7 : Evo M w2 w7 := e2_6.trans s7.no
    have z7 : Evo No w w7 := z6.trans s7.no
    have O_64 := O_48.no s7
    obtain ⟨a_57, n_58, c_59, rfl, O_60, lo_61⟩ := q_63
    have lo_65 := own_up lo_61 e0_6.size
    have lo_66 := own_up lo_61 e1_6.size
    have lo_67 := own_up lo_61 e2_6.size
    have lo_68 : ∀ b, OwnB a_57 b → w.heap.size ≤ b := own_up lo_61 z6.size
    have hb_n_58 : n_58 ≤ 0 + 10 + 10 + 10 + 10 + 10 := put_bd (bs := ((((([]) ++ (nB m.id)) ++ (nB m.base)) ++ (nB m.end_)) ++ iB m.time)) O_60 (by omega) (putN_len10 (BitVec.isLt _))
    refine q_assign (v := .slice a_57 n_58 c_59) rfl rfl ?_
    refine done ?_
    refine thenN ?_
    refine seq ?_
    refine seq ?_
    refine region [true, false, true, true] ?_
    refine q_fieldAddr rfl rfl fl31_4 ?_
    refine l_loadB trivial rfl rfl pl28 (fk_1.now e1_7) rfl ?_
    refine q_len rfl rfl el28 ?_
    refine q_move (v := .int .i64 0) rfl rfl ?_
    refine done ?_
    refine thenN ?_
    refine blk ?_
    have y_69 := (fk_1.on e1_7)
    refine loopN [43, 44, 45, 7, 46, 47, 48, 49, 50, 51, 52, 53, 54, 5, 55, 42] (fun k9 R9 wJ => ∃ (j : Nat), ∃ (ua : Option Addr), ∃ (un : Nat), ∃ (uc : Nat), ∃ (uq : List UInt8), R9 = [(42, .int .i64 (j : Int)), (5, .slice ua un uc)] ∧ (j ≤ en) ∧ (uq = headB m ++ (m.epochs.take j).flatMap epochB) ∧ (un ≤ 50 + 20 * j) ∧ (Own 1 5 (uq.map encB) ua un uc wJ) ∧ (∀ b, OwnB ua b → w.heap.size ≤ b) ∧ (Evo No w7 wJ) ∧ (Evo No w wJ) ∧ k9 = en - j) ⟨_, _, ⟨0, a_57, n_58, c_59, (((((([]) ++ (nB m.id)) ++ (nB m.base)) ++ (nB m.end_)) ++ iB m.time) ++ (nB (en : Int))), rfl, Nat.zero_le _, (by simp [headB, hel]), by omega, O_60, lo_68, Evo.refl _ _, z7, rfl⟩, ⟨(by kernel_rfl), (by kernel_rfl), trivial⟩⟩ (fun k9 R9 u_70 w8 J_71 => ?_)
    obtain ⟨j, ua, un, uc, uq, rfl, hj, hqu, hbu, Ou, lou, x9j, z9j, rfl⟩ := J_71
    have e0_8 : Evo M w w8 := e0_7.trans x9j.no
    have e1_8 : Evo M w1 w8 := e1_7.trans x9j.no
    have e2_8 : Evo M w2 w8 := e2_7.trans x9j.no
    have exj_8 : Evo M w7 w8 := x9j.no
    have enj_8 : Evo No w7 w8 := x9j
    have hlu := Ou.len; rw [List.length_map] at hlu
    refine seq ?_
    refine region [true] ?_
    refine q_lss rfl rfl rfl ?_
    refine done ?_
    refine thenN ?_
    refine seq ?_
    refine cond_b rfl (fun h_72 => ?_) (fun h_72 => ?_)
    · skip
      have h_72p := of_decide_eq_true h_72
      refine wp_skip ?_
      refine thenN ?_
      refine seq ?_
      refine blk ?_
      refine seq ?_
      refine region [true, false, false, false] ?_
      obtain ⟨x_73, hx_73⟩ := Sl.get (xs := m.epochs) he.here (i := (j : Int)) (by omega) (by omega)
      have Ax_73 := Sl.areaAt he (Sl.map_get hx_73)
      refine q_indexS' rfl rfl rfl el28 (he.here.there (by omega)).1 (by omega) (by omega) ?_
      refine l_loadN trivial rfl rfl ag61 rfl (Ax_73.now e0_8) ?_
      refine l_alloc (M := M) Keep.any (hM.on z9j) rfl ze61 (fun k_74 w9 s9 ck_74 nk_74 ok_74 => ?_)
      have lk_74_0 : w.heap.size ≤ k_74 := Nat.le_trans e0_8.size nk_74
      have lk_74_1 : w1.heap.size ≤ k_74 := Nat.le_trans e1_8.size nk_74
      have lk_74_2 : w2.heap.size ≤ k_74 := Nat.le_trans e2_8.size nk_74
      have lk_74_xj : w7.heap.size ≤ k_74 := Nat.le_trans exj_8.size nk_74
      have lk_74_nj : w7.heap.size ≤ k_74 := Nat.le_trans enj_8.size nk_74
      have lk_74_w : w.heap.size ≤ k_74 := Nat.le_trans z9j.size nk_74
      have ow7_k_74 := fun (b0 : Nat) hb0 (e0 : b0 = k_74) => (absurd (Ou.lt b0 hb0) (by omega) : False)
      have e0_9 : Evo M w w9 := e0_8.trans s9.no
      have e1_9 : Evo M w1 w9 := e1_8.trans s9.no
      have e2_9 : Evo M w2 w9 := e2_8.trans s9.no
      have exj_9 : Evo M w7 w9 := exj_8.trans s9.no
      have enj_9 : Evo No w7 w9 := enj_8.trans s9.no
      have z9 : Evo No w w9 := z9j.trans s9.no
      have O_75 := Ou.no s9
      have hlk_74 := ck_74.lt
      refine l_store Keep.any rfl rfl ck_74 rfl sz61 rfl (Nat.le_of_ble_eq_true rfl) rfl (cs' := [.int .i64 x_73.1, .int .i64 x_73.2]) rfl (fun w10 s10 c_76 => ?_)
      have e0_10 : Evo M w w10 := e0_9.fresh s10 lk_74_0
      have e1_10 : Evo M w1 w10 := e1_9.fresh s10 lk_74_1
      have e2_10 : Evo M w2 w10 := e2_9.fresh s10 lk_74_2
      have exj_10 : Evo M w7 w10 := exj_9.fresh s10 lk_74_xj
      have enj_10 : Evo No w7 w10 := enj_9.fresh s10 lk_74_nj
      have z10 : Evo No w w10 := z9.fresh s10 lk_74_w
      have O_77 := O_75.on s10 (ow7_k_74)
      refine done ?_
      refine thenN ?_
      refine regionD No (.q 0 (.q 1 (.q 2 (.q 3 (.q 5 (.q 6 (.q 7 (.l 4 (.l 8 (.q 9 (.nil))))))))))) mixed (by kernel_rfl) (by kernel_rfl) (by kernel_rfl) (fun w11 s11 => ?_)
      have e0_11 : Evo M w w11 := e0_10.trans s11.no
      have e1_11 : Evo M w1 w11 := e1_10.trans s11.no
      have e2_11 : Evo M w2 w11 := e2_10.trans s11.no
      have exj_11 : Evo M w7 w11 := exj_10.trans s11.no
      have enj_11 : Evo No w7 w11 := enj_10.trans s11.no
      have z11 : Evo No w w11 := z10.trans s11.no
      have c_78 := c_76.no s11
      have O_79 := O_77.no s11
      have rgr_80_11 : Evo No w10 w11 := s11.no
      refine q_move (v := .slice ua un uc) rfl rfl ?_
      refine q_fieldAddr rfl rfl fl61_0 ?_
      refine q_loadB rfl rfl pl3 (fun _ e => c_76.no e) rfl ?_
      refine q_bvOf (k := .u64) x_73.1 rfl rfl rfl in3 in81 ?_
      refine q_fieldAddr rfl rfl fl61_1 ?_
      refine q_loadB rfl rfl pl2 (fun _ e => c_76.no e) rfl ?_
      refine q_bvOf (k := .u64) x_73.2 rfl rfl rfl in2 in81 ?_
      have hl_n_82 : un = uq.length := by have h0 := O_79.len; rw [List.length_map] at h0; exact h0
      refine l_call (Keep.evo rgr_80_11 noX) rfl (put_c (M := M) w11 (hM.on z11) uq ua un uc (O_79.at_ (own_notM hM lou)) (by omega) (BitVec.ofInt 64 x_73.1)) en36 rfl rfl (fun v_86 w12 s12 q_87 => ?_)
      have e0_12 : Evo M w w12 := e0_11.trans s12.no
      have e1_12 : Evo M w1 w12 := e1_11.trans s12.no
      have e2_12 : Evo M w2 w12 := e2_11.trans s12.no
      have exj_12 : Evo M w7 w12 := exj_11.trans s12.no
      have enj_12 : Evo No w7 w12 := enj_11.trans s12.no
      have z12 : Evo No w w12 := z11.trans s12.no
      have c_88 := c_78.no s12
      have O_89 := O_79.no s12
      have rgr_80_12 : Evo No w10 w12 := rgr_80_11.trans s12.no
      obtain ⟨a_81, n_82, c_83, rfl, O_84, lo_85⟩ := q_87
      have lo_90 := own_up lo_85 e0_11.size
      have lo_91 := own_up lo_85 e1_11.size
      have lo_92 := own_up lo_85 e2_11.size
      have lo_93 := own_up lo_85 exj_11.size
      have lo_94 := own_up lo_85 enj_11.size
      have lo_95 : ∀ b, OwnB a_81 b → w.heap.size ≤ b := own_up lo_85 z11.size
      have ob_96 : ∀ b0, OwnB a_81 b0 → b0 ≠ k_74 := fun b0 hb0 e0 => absurd (lo_85 b0 hb0) (by have h0 := c_78.lt; omega)
      have hb_n_82 : n_82 ≤ 50 + 20 * j + 10 := put_bd (bs := uq) O_84 (by omega) (putN_len10 (BitVec.isLt _))
      have hl_n_98 : n_82 = (uq ++ (nB x_73.1)).length := by have h0 := O_84.len; rw [List.length_map] at h0; exact h0
      refine l_call (Keep.evo rgr_80_12 noX) rfl (put_c (M := M) w12 (hM.on z12) (uq ++ (nB x_73.1)) a_81 n_82 c_83 (O_84.at_ (own_notM hM lo_95)) (by omega) (BitVec.ofInt 64 x_73.2)) en36 rfl rfl (fun v_102 w13 s13 q_103 => ?_)
      have e0_13 : Evo M w w13 := e0_12.trans s13.no
      have e1_13 : Evo M w1 w13 := e1_12.trans s13.no
      have e2_13 : Evo M w2 w13 := e2_12.trans s13.no
      have exj_13 : Evo M w7 w13 := exj_12.trans s13.no
      have enj_13 : Evo No w7 w13 := enj_12.trans s13.no
      have z13 : Evo No w w13 := z12.trans s13.no
      have c_104 := c_88.no s13
      have O_105 := O_84.no s13
      have rgr_80_13 : Evo No w10 w13 := rgr_80_12.trans s13.no
      obtain ⟨a_97, n_98, c_99, rfl, O_100, lo_101⟩ := q_103
      have lo_106 := own_up lo_101 e0_12.size
      have lo_107 := own_up lo_101 e1_12.size
      have lo_108 := own_up lo_101 e2_12.size
      have lo_109 := own_up lo_101 exj_12.size
      have lo_110 := own_up lo_101 enj_12.size
      have lo_111 : ∀ b, OwnB a_97 b → w.heap.size ≤ b := own_up lo_101 z12.size
      have ob_112 : ∀ b0, OwnB a_97 b0 → b0 ≠ k_74 := fun b0 hb0 e0 => absurd (lo_101 b0 hb0) (by have h0 := c_88.lt; omega)
      have hb_n_98 : n_98 ≤ 50 + 20 * j + 10 + 10 := put_bd (bs := (uq ++ (nB x_73.1))) O_100 (by omega) (putN_len10 (BitVec.isLt _))
      refine q_assign (v := .slice a_97 n_98 c_99) rfl rfl ?_
      refine done ?_
      refine blkN ?_
      refine thenN ?_
      refine region [true, true] ?_
      refine q_add rfl rfl rfl (wi64 (by omega) (by omega)) ?_
      refine q_move (v := .int .i64 ((j : Int) + 1)) rfl rfl ?_
      refine done ?_
      refine thenN ?_
      refine ⟨_, _, ?_, ⟨j + 1, a_97, n_98, c_99, ((uq ++ (nB x_73.1)) ++ (nB x_73.2)), rfl, by omega, (by rw [flat_snoc (j := j) hx_73, hqu]; simp [epochB]), by omega, O_100, lo_111, enj_13, z13, rfl⟩, Env.near_at 34 (by kernel_rfl) (by kernel_rfl) ⟨(Eq.trans (b := Go.Value.int .i64 ((j : Int) + 1)) (by kernel_rfl) (nextI j)), (by kernel_rfl), trivial⟩⟩
      omega
    · skip
      have h_72p := of_decide_eq_false h_72
      refine wp_exit ?_
      refine thenX ?_
      refine thenX ?_
      refine blkX ?_
      refine thenN ?_
      refine seq ?_
      refine region [true, true, false, true, true, false, true] ?_
      refine q_move (v := .slice ua un uc) rfl rfl ?_
      refine q_fieldAddr rfl rfl fl31_5 ?_
      refine l_loadB trivial rfl rfl pl29 (y_69.now exj_8) rfl ?_
      refine q_len rfl rfl el29 ?_
      refine q_bvOf (k := .u64) (on : Int) rfl rfl rfl in3 in81 ?_
      have hl_n_114 : un = uq.length := by have h0 := Ou.len; rw [List.length_map] at h0; exact h0
      refine l_call Keep.any rfl (put_c (M := M) w8 (hM.on z9j) uq ua un uc (Ou.at_ (own_notM hM lou)) (by omega) (BitVec.ofInt 64 (on : Int))) en36 rfl rfl (fun v_118 w9 s9 q_119 => ?_)
      have e0_9 : Evo M w w9 := e0_8.trans s9.no
      have e1_9 : Evo M w1 w9 := e1_8.trans s9.no
      have e2_9 : Evo M w2 w9 := e2_8.trans s9.no
      have exj_9 : Evo M w7 w9 := exj_8.trans s9.no
      have enj_9 : Evo No w7 w9 := enj_8.trans s9.no
      have z9 : Evo No w w9 := z9j.trans s9.no
      have O_120 := Ou.no s9
      obtain ⟨a_113, n_114, c_115, rfl, O_116, lo_117⟩ := q_119
      have lo_121 := own_up lo_117 e0_8.size
      have lo_122 := own_up lo_117 e1_8.size
      have lo_123 := own_up lo_117 e2_8.size
      have lo_124 := own_up lo_117 exj_8.size
      have lo_125 := own_up lo_117 enj_8.size
      have lo_126 : ∀ b, OwnB a_113 b → w.heap.size ≤ b := own_up lo_117 z9j.size
      have hb_n_114 : n_114 ≤ 50 + 20 * j + 10 := put_bd (bs := uq) O_116 (by omega) (putN_len10 (BitVec.isLt _))
      refine q_assign (v := .slice a_113 n_114 c_115) rfl rfl ?_
      refine done ?_
      refine thenN ?_
      refine seq ?_
      refine seq ?_
      refine region [true, false, true, true] ?_
      refine q_fieldAddr rfl rfl fl31_5 ?_
      refine l_loadB trivial rfl rfl pl29 (y_69.now exj_9) rfl ?_
      refine q_len rfl rfl el29 ?_
      refine q_move (v := .int .i64 0) rfl rfl ?_
      refine done ?_
      refine thenN ?_
      refine blk ?_
      have y_127 := (y_69.on exj_9)
      refine loopN [66, 67, 68, 9, 69, 70, 71, 72, 73, 74, 5, 75, 76, 77, 78, 79, 80, 81, 82, 83, 84, 85, 86, 87, 88, 65] (fun k9 R9 wJ => ∃ (i : Nat), ∃ (va : Option Addr), ∃ (vn : Nat), ∃ (vc : Nat), ∃ (vq : List UInt8), R9 = [(65, .int .i64 (i : Int)), (5, .slice va vn vc)] ∧ (i ≤ on) ∧ (vq = headB m ++ m.epochs.flatMap epochB ++ nB m.objects.length ++ (m.objects.take i).flatMap objB) ∧ (vn ≤ 60 + 20 * 256 + 94 * i) ∧ (Own 1 5 (vq.map encB) va vn vc wJ) ∧ (∀ b, OwnB va b → w.heap.size ≤ b) ∧ (Evo No w9 wJ) ∧ (Evo No w wJ) ∧ k9 = on - i) ⟨_, _, ⟨0, a_113, n_114, c_115, (uq ++ (nB (on : Int))), rfl, Nat.zero_le _, (by rw [hqu, List.take_of_length_le (by omega), ← hol]; simp), by omega, O_116, lo_126, Evo.refl _ _, z9, rfl⟩, ⟨(by kernel_rfl), (by kernel_rfl), trivial⟩⟩ (fun k9 R9 u_128 w10 J_129 => ?_)
      obtain ⟨i, va, vn, vc, vq, rfl, hi, hqv, hbv, Ov, lov, x9i, z9i, rfl⟩ := J_129
      have e0_10 : Evo M w w10 := e0_9.trans x9i.no
      have e1_10 : Evo M w1 w10 := e1_9.trans x9i.no
      have e2_10 : Evo M w2 w10 := e2_9.trans x9i.no
      have exj_10 : Evo M w7 w10 := exj_9.trans x9i.no
      have enj_10 : Evo No w7 w10 := enj_9.trans x9i.no
      have exi_10 : Evo M w9 w10 := x9i.no
      have eni_10 : Evo No w9 w10 := x9i
      have hlv := Ov.len; rw [List.length_map] at hlv
      refine seq ?_
      refine region [true] ?_
      refine q_lss rfl rfl rfl ?_
      refine done ?_
      refine thenN ?_
      refine seq ?_
      refine cond_b rfl (fun h_130 => ?_) (fun h_130 => ?_)
      · skip
        have h_130p := of_decide_eq_true h_130
        refine wp_skip ?_
        refine thenN ?_
        refine seq ?_
        refine blk ?_
        refine seq ?_
        refine region [true, false, false, false] ?_
        obtain ⟨x_131, hx_131⟩ := Sl.get (xs := m.objects) ho.here (i := (i : Int)) (by omega) (by omega)
        have Ax_131 := Sl.areaAt ho (Sl.map_get hx_131)
        refine q_indexS' rfl rfl rfl el29 (ho.here.there (by omega)).1 (by omega) (by omega) ?_
        have hnmx_131 := hns x_131 (List.mem_of_getElem? hx_131)
        refine l_loadN trivial rfl rfl ag46 rfl (Ax_131.now e0_10) ?_
        refine l_alloc (M := M) Keep.any (hM.on z9i) rfl ze46 (fun k_132 w11 s11 ck_132 nk_132 ok_132 => ?_)
        have lk_132_0 : w.heap.size ≤ k_132 := Nat.le_trans e0_10.size nk_132
        have lk_132_1 : w1.heap.size ≤ k_132 := Nat.le_trans e1_10.size nk_132
        have lk_132_2 : w2.heap.size ≤ k_132 := Nat.le_trans e2_10.size nk_132
        have lk_132_xj : w7.heap.size ≤ k_132 := Nat.le_trans exj_10.size nk_132
        have lk_132_nj : w7.heap.size ≤ k_132 := Nat.le_trans enj_10.size nk_132
        have lk_132_xi : w9.heap.size ≤ k_132 := Nat.le_trans exi_10.size nk_132
        have lk_132_ni : w9.heap.size ≤ k_132 := Nat.le_trans eni_10.size nk_132
        have lk_132_w : w.heap.size ≤ k_132 := Nat.le_trans z9i.size nk_132
        have ow11_k_132 := fun (b0 : Nat) hb0 (e0 : b0 = k_132) => (absurd (Ov.lt b0 hb0) (by omega) : False)
        have e0_11 : Evo M w w11 := e0_10.trans s11.no
        have e1_11 : Evo M w1 w11 := e1_10.trans s11.no
        have e2_11 : Evo M w2 w11 := e2_10.trans s11.no
        have exj_11 : Evo M w7 w11 := exj_10.trans s11.no
        have enj_11 : Evo No w7 w11 := enj_10.trans s11.no
        have exi_11 : Evo M w9 w11 := exi_10.trans s11.no
        have eni_11 : Evo No w9 w11 := eni_10.trans s11.no
        have z11 : Evo No w w11 := z9i.trans s11.no
        have O_133 := Ov.no s11
        have hlk_132 := ck_132.lt
        refine l_store Keep.any rfl rfl ck_132 rfl sz46 rfl (Nat.le_of_ble_eq_true rfl) rfl (cs' := [.string x_131.name, .int .i64 x_131.len, .int .u32 x_131.sum]) rfl (fun w12 s12 c_134 => ?_)
        have e0_12 : Evo M w w12 := e0_11.fresh s12 lk_132_0
        have e1_12 : Evo M w1 w12 := e1_11.fresh s12 lk_132_1
        have e2_12 : Evo M w2 w12 := e2_11.fresh s12 lk_132_2
        have exj_12 : Evo M w7 w12 := exj_11.fresh s12 lk_132_xj
        have enj_12 : Evo No w7 w12 := enj_11.fresh s12 lk_132_nj
        have exi_12 : Evo M w9 w12 := exi_11.fresh s12 lk_132_xi
        have eni_12 : Evo No w9 w12 := eni_11.fresh s12 lk_132_ni
        have z12 : Evo No w w12 := z11.fresh s12 lk_132_w
        have O_135 := O_133.on s12 (ow11_k_132)
        refine done ?_
        refine thenN ?_
        refine seq ?_
        refine region [true, true, false, true, true, false, true] ?_
        refine q_move (v := .slice va vn vc) rfl rfl ?_
        refine q_fieldAddr rfl rfl fl46_0 ?_
        refine l_loadB trivial rfl rfl pl9 c_134 rfl ?_
        refine q_lenS rfl rfl st9 ?_
        refine q_bvOf (k := .u64) (x_131.name.size : Int) rfl rfl rfl in3 in81 ?_
        have hl_n_137 : vn = vq.length := by have h0 := O_135.len; rw [List.length_map] at h0; exact h0
        refine l_call Keep.any rfl (put_c (M := M) w12 (hM.on z12) vq va vn vc (O_135.at_ (own_notM hM lov)) (by omega) (BitVec.ofInt 64 (x_131.name.size : Int))) en36 rfl rfl (fun v_141 w13 s13 q_142 => ?_)
        have e0_13 : Evo M w w13 := e0_12.trans s13.no
        have e1_13 : Evo M w1 w13 := e1_12.trans s13.no
        have e2_13 : Evo M w2 w13 := e2_12.trans s13.no
        have exj_13 : Evo M w7 w13 := exj_12.trans s13.no
        have enj_13 : Evo No w7 w13 := enj_12.trans s13.no
        have exi_13 : Evo M w9 w13 := exi_12.trans s13.no
        have eni_13 : Evo No w9 w13 := eni_12.trans s13.no
        have z13 : Evo No w w13 := z12.trans s13.no
        have c_143 := c_134.no s13
        have O_144 := O_135.no s13
        obtain ⟨a_136, n_137, c_138, rfl, O_139, lo_140⟩ := q_142
        have lo_145 := own_up lo_140 e0_12.size
        have lo_146 := own_up lo_140 e1_12.size
        have lo_147 := own_up lo_140 e2_12.size
        have lo_148 := own_up lo_140 exj_12.size
        have lo_149 := own_up lo_140 enj_12.size
        have lo_150 := own_up lo_140 exi_12.size
        have lo_151 := own_up lo_140 eni_12.size
        have lo_152 : ∀ b, OwnB a_136 b → w.heap.size ≤ b := own_up lo_140 z12.size
        have ob_153 : ∀ b0, OwnB a_136 b0 → b0 ≠ k_132 := fun b0 hb0 e0 => absurd (lo_140 b0 hb0) (by have h0 := c_134.lt; omega)
        have hb_n_137 : n_137 ≤ 60 + 20 * 256 + 94 * i + 10 := put_bd (bs := vq) O_139 (by omega) (putN_len10 (BitVec.isLt _))
        refine q_assign (v := .slice a_136 n_137 c_138) rfl rfl ?_
        refine done ?_
        refine thenN ?_
        refine seq ?_
        refine region [true, true, false, false, true] ?_
        refine q_move (v := .slice a_136 n_137 c_138) rfl rfl ?_
        refine q_fieldAddr rfl rfl fl46_0 ?_
        refine l_loadB trivial rfl rfl pl9 c_143 rfl ?_
        refine l_append (k := 1) (news := (strRows x_131.name)) Keep.any rfl rfl rfl ap49 O_139 (Src.ofStr st9) (by simp) strRows_shape (by omega) (by decide) (fun am_154 cm_154 w14 s14 Om_154 fm_154 nm_154 => ?_)
        have lom_154_0 := own_lo fm_154 lo_145 e0_13.size
        have lom_154_1 := own_lo fm_154 lo_146 e1_13.size
        have lom_154_2 := own_lo fm_154 lo_147 e2_13.size
        have lom_154_xj := own_lo fm_154 lo_148 exj_13.size
        have lom_154_nj := own_lo fm_154 lo_149 enj_13.size
        have lom_154_xi := own_lo fm_154 lo_150 exi_13.size
        have lom_154_ni := own_lo fm_154 lo_151 eni_13.size
        have lom_154_w := own_lo fm_154 lo_152 z13.size
        have e0_14 : Evo M w w14 := Evo.own e0_13 s14 lo_145
        have e1_14 : Evo M w1 w14 := Evo.own e1_13 s14 lo_146
        have e2_14 : Evo M w2 w14 := Evo.own e2_13 s14 lo_147
        have exj_14 : Evo M w7 w14 := Evo.own exj_13 s14 lo_148
        have enj_14 : Evo No w7 w14 := Evo.own enj_13 s14 lo_149
        have exi_14 : Evo M w9 w14 := Evo.own exi_13 s14 lo_150
        have eni_14 : Evo No w9 w14 := Evo.own eni_13 s14 lo_151
        have z14 : Evo No w w14 := Evo.own z13 s14 lo_152
        have c_155 := c_143.on s14 (fun hb => ob_153 _ hb rfl)
        have O_156 : Own 1 5 (((vq ++ (nB (x_131.name.size : Int))) ++ x_131.name.data.toList).map encB) am_154 (n_137 + x_131.name.size) cm_154 w14 := by rw [List.map_append]; exact Om_154
        refine q_assign (v := .slice am_154 (n_137 + x_131.name.size) cm_154) rfl rfl ?_
        refine done ?_
        refine thenN ?_
        refine regionD No (.q 0 (.q 1 (.q 2 (.q 3 (.q 5 (.q 6 (.q 7 (.l 4 (.l 8 (.q 9 (.nil))))))))))) mixed (by kernel_rfl) (by kernel_rfl) (by kernel_rfl) (fun w15 s15 => ?_)
        have e0_15 : Evo M w w15 := e0_14.trans s15.no
        have e1_15 : Evo M w1 w15 := e1_14.trans s15.no
        have e2_15 : Evo M w2 w15 := e2_14.trans s15.no
        have exj_15 : Evo M w7 w15 := exj_14.trans s15.no
        have enj_15 : Evo No w7 w15 := enj_14.trans s15.no
        have exi_15 : Evo M w9 w15 := exi_14.trans s15.no
        have eni_15 : Evo No w9 w15 := eni_14.trans s15.no
        have z15 : Evo No w w15 := z14.trans s15.no
        have c_157 := c_155.no s15
        have O_158 := O_156.no s15
        have rgr_159_15 : Evo No w14 w15 := s15.no
        refine q_move (v := .slice am_154 (n_137 + x_131.name.size) cm_154) rfl rfl ?_
        refine q_fieldAddr rfl rfl fl46_1 ?_
        refine q_loadB rfl rfl pl3 (fun _ e => c_155.no e) rfl ?_
        refine q_bvOf (k := .u64) x_131.len rfl rfl rfl in3 in81 ?_
        refine q_fieldAddr rfl rfl fl46_2 ?_
        refine q_loadB rfl rfl pl44 (fun _ e => c_155.no e) rfl ?_
        refine q_bvOf (k := .u64) x_131.sum rfl rfl rfl in44 in81 ?_
        have hl_n_161 : n_137 + x_131.name.size = ((vq ++ (nB (x_131.name.size : Int))) ++ x_131.name.data.toList).length := by have h0 := O_158.len; rw [List.length_map] at h0; exact h0
        refine l_call (Keep.evo rgr_159_15 noX) rfl (put_c (M := M) w15 (hM.on z15) ((vq ++ (nB (x_131.name.size : Int))) ++ x_131.name.data.toList) am_154 (n_137 + x_131.name.size) cm_154 (O_158.at_ (own_notM hM lom_154_w)) (by omega) (BitVec.ofInt 64 x_131.len)) en36 rfl rfl (fun v_165 w16 s16 q_166 => ?_)
        have e0_16 : Evo M w w16 := e0_15.trans s16.no
        have e1_16 : Evo M w1 w16 := e1_15.trans s16.no
        have e2_16 : Evo M w2 w16 := e2_15.trans s16.no
        have exj_16 : Evo M w7 w16 := exj_15.trans s16.no
        have enj_16 : Evo No w7 w16 := enj_15.trans s16.no
        have exi_16 : Evo M w9 w16 := exi_15.trans s16.no
        have eni_16 : Evo No w9 w16 := eni_15.trans s16.no
        have z16 : Evo No w w16 := z15.trans s16.no
        have c_167 := c_157.no s16
        have O_168 := O_158.no s16
        have rgr_159_16 : Evo No w14 w16 := rgr_159_15.trans s16.no
        obtain ⟨a_160, n_161, c_162, rfl, O_163, lo_164⟩ := q_166
        have lo_169 := own_up lo_164 e0_15.size
        have lo_170 := own_up lo_164 e1_15.size
        have lo_171 := own_up lo_164 e2_15.size
        have lo_172 := own_up lo_164 exj_15.size
        have lo_173 := own_up lo_164 enj_15.size
        have lo_174 := own_up lo_164 exi_15.size
        have lo_175 := own_up lo_164 eni_15.size
        have lo_176 : ∀ b, OwnB a_160 b → w.heap.size ≤ b := own_up lo_164 z15.size
        have ob_177 : ∀ b0, OwnB a_160 b0 → b0 ≠ k_132 := fun b0 hb0 e0 => absurd (lo_164 b0 hb0) (by have h0 := c_157.lt; omega)
        have hb_n_161 : n_161 ≤ 60 + 20 * 256 + 94 * i + 10 + 64 + 10 := put_bd (bs := ((vq ++ (nB (x_131.name.size : Int))) ++ x_131.name.data.toList)) O_163 (by omega) (putN_len10 (BitVec.isLt _))
        have hl_n_179 : n_161 = (((vq ++ (nB (x_131.name.size : Int))) ++ x_131.name.data.toList) ++ (nB x_131.len)).length := by have h0 := O_163.len; rw [List.length_map] at h0; exact h0
        refine l_call (Keep.evo rgr_159_16 noX) rfl (put_c (M := M) w16 (hM.on z16) (((vq ++ (nB (x_131.name.size : Int))) ++ x_131.name.data.toList) ++ (nB x_131.len)) a_160 n_161 c_162 (O_163.at_ (own_notM hM lo_176)) (by omega) (BitVec.ofInt 64 x_131.sum)) en36 rfl rfl (fun v_183 w17 s17 q_184 => ?_)
        have e0_17 : Evo M w w17 := e0_16.trans s17.no
        have e1_17 : Evo M w1 w17 := e1_16.trans s17.no
        have e2_17 : Evo M w2 w17 := e2_16.trans s17.no
        have exj_17 : Evo M w7 w17 := exj_16.trans s17.no
        have enj_17 : Evo No w7 w17 := enj_16.trans s17.no
        have exi_17 : Evo M w9 w17 := exi_16.trans s17.no
        have eni_17 : Evo No w9 w17 := eni_16.trans s17.no
        have z17 : Evo No w w17 := z16.trans s17.no
        have c_185 := c_167.no s17
        have O_186 := O_163.no s17
        have rgr_159_17 : Evo No w14 w17 := rgr_159_16.trans s17.no
        obtain ⟨a_178, n_179, c_180, rfl, O_181, lo_182⟩ := q_184
        have lo_187 := own_up lo_182 e0_16.size
        have lo_188 := own_up lo_182 e1_16.size
        have lo_189 := own_up lo_182 e2_16.size
        have lo_190 := own_up lo_182 exj_16.size
        have lo_191 := own_up lo_182 enj_16.size
        have lo_192 := own_up lo_182 exi_16.size
        have lo_193 := own_up lo_182 eni_16.size
        have lo_194 : ∀ b, OwnB a_178 b → w.heap.size ≤ b := own_up lo_182 z16.size
        have ob_195 : ∀ b0, OwnB a_178 b0 → b0 ≠ k_132 := fun b0 hb0 e0 => absurd (lo_182 b0 hb0) (by have h0 := c_167.lt; omega)
        have hb_n_179 : n_179 ≤ 60 + 20 * 256 + 94 * i + 10 + 64 + 10 + 10 := put_bd (bs := (((vq ++ (nB (x_131.name.size : Int))) ++ x_131.name.data.toList) ++ (nB x_131.len))) O_181 (by omega) (putN_len10 (BitVec.isLt _))
        refine q_assign (v := .slice a_178 n_179 c_180) rfl rfl ?_
        refine done ?_
        refine blkN ?_
        refine thenN ?_
        refine region [true, true] ?_
        refine q_add rfl rfl rfl (wi64 (by omega) (by omega)) ?_
        refine q_move (v := .int .i64 ((i : Int) + 1)) rfl rfl ?_
        refine done ?_
        refine thenN ?_
        refine ⟨_, _, ?_, ⟨i + 1, a_178, n_179, c_180, ((((vq ++ (nB (x_131.name.size : Int))) ++ x_131.name.data.toList) ++ (nB x_131.len)) ++ (nB x_131.sum)), rfl, by omega, (by rw [flat_snoc (j := i) hx_131, hqv]; simp [objB]), by omega, O_181, lo_194, eni_17, z17, rfl⟩, Env.near_at 56 (by kernel_rfl) (by kernel_rfl) ⟨(Eq.trans (b := Go.Value.int .i64 ((i : Int) + 1)) (by kernel_rfl) (nextI i)), (by kernel_rfl), trivial⟩⟩
        omega
      · skip
        have h_130p := of_decide_eq_false h_130
        refine wp_exit ?_
        refine thenX ?_
        refine thenX ?_
        refine blkX ?_
        refine thenN ?_
        refine seq ?_
        refine region [true, false, true, true] ?_
        refine q_move (v := .slice va vn vc) rfl rfl ?_
        have hbody : vq = bodyB m := by rw [hqv, List.take_of_length_le (by omega)]; rfl
        refine l_call Keep.any rfl (seal_c (M := M) w10 (hM.on z9i) vq _ _ _ (Ov.at_ (own_notM hM lov)) (by omega)) en40 rfl rfl (fun v_201 w11 s11 q_202 => ?_)
        have e0_11 : Evo M w w11 := e0_10.trans s11.no
        have e1_11 : Evo M w1 w11 := e1_10.trans s11.no
        have e2_11 : Evo M w2 w11 := e2_10.trans s11.no
        have exj_11 : Evo M w7 w11 := exj_10.trans s11.no
        have enj_11 : Evo No w7 w11 := enj_10.trans s11.no
        have exi_11 : Evo M w9 w11 := exi_10.trans s11.no
        have eni_11 : Evo No w9 w11 := eni_10.trans s11.no
        have z11 : Evo No w w11 := z9i.trans s11.no
        have O_203 := Ov.no s11
        obtain ⟨a_196, n_197, c_198, rfl, O_199, lo_200⟩ := q_202
        have lo_204 := own_up lo_200 e0_10.size
        have lo_205 := own_up lo_200 e1_10.size
        have lo_206 := own_up lo_200 e2_10.size
        have lo_207 := own_up lo_200 exj_10.size
        have lo_208 := own_up lo_200 enj_10.size
        have lo_209 := own_up lo_200 exi_10.size
        have lo_210 := own_up lo_200 eni_10.size
        have lo_211 : ∀ b, OwnB a_196 b → w.heap.size ≤ b := own_up lo_200 z9i.size
        refine q_assign (v := .slice a_196 n_197 c_198) rfl rfl ?_
        refine q_assign (v := .nilIface) rfl rfl ?_
        refine done ?_
        refine thenN ?_
        refine wp_ret ?_
        refine ret2v (.slice a_196 n_197 c_198) (.nilIface) rfl rfl rfl ?_
        have O8 := O_199
        have hz := O8.len; rw [List.length_map, sealM_len] at hz
        exact ⟨z11, _, _, _, rfl, by unfold maniB; rw [← hbody]; exact O8, lo_211, by omega⟩
  · skip
    exact absurd hok h_7
end Go.Proofs.YtnkafkikjcgogaaDoor
