import Derived.Test.YtnkafkikjcgogaaDoorSxg
import Derived.Test.YtnkafkikjcgogaaDoorProg
import Derived.Test.YtnkafkikjcgogaaDoorOmod
import Derived.Test.YtnkafkikjcgogaaDoorVw1
import Derived.Test.YtnkafkikjcgogaaDoorVw6
import Derived.Test.YtnkafkikjcgogaaDoorVw7
/- Closed facts on the translation. -/
set_option maxRecDepth 100000
set_option linter.unusedVariables false
set_option linter.unusedSimpArgs false
namespace Go.Proofs.YtnkafkikjcgogaaDoor.F8
open Go.Sx
theorem mixed : Tryd.prog.follows .mixedOrders = true := by kernel_rfl
theorem ag31 : aggB Tryd.prog 31 = some 6 := by kernel_rfl
theorem ag57 : aggB Tryd.prog 57 = some 3 := by kernel_rfl
theorem el49 : elemB Tryd.prog 49 = some (5, 1) := by kernel_rfl
theorem en20 : entB Tryd.prog 20 = true := by kernel_rfl
theorem en34 : entB Tryd.prog 34 = true := by kernel_rfl
theorem en41 : entB Tryd.prog 41 = true := by kernel_rfl
theorem en42 : entB Tryd.prog 42 = true := by kernel_rfl
theorem en43 : entB Tryd.prog 43 = true := by kernel_rfl
theorem en44 : entB Tryd.prog 44 = true := by kernel_rfl
theorem fl31_5 : fldB Tryd.prog 31 5 = some 5 := by kernel_rfl
theorem fl57_0 : fldB Tryd.prog 57 0 = some 0 := by kernel_rfl
theorem pl3 : plainB Tryd.prog 3 = true := by kernel_rfl
theorem sz29 : szB Tryd.prog 29 = some 1 := by kernel_rfl
theorem sz31 : szB Tryd.prog 31 = some 6 := by kernel_rfl
theorem sz57 : szB Tryd.prog 57 = some 3 := by kernel_rfl
theorem ze31 : zeroB Tryd.prog 31 = some [.int .i64 0, .int .i64 0, .int .i64 0, .int .i64 0, .slice none 0 0, .slice none 0 0] := by kernel_rfl
theorem ze57 : zeroB Tryd.prog 57 = some [.int .i64 0, .bool false, .int .i64 0] := by kernel_rfl
end Go.Proofs.YtnkafkikjcgogaaDoor.F8

set_option linter.unusedVariables false
set_option linter.unusedSimpArgs false
set_option maxRecDepth 4000
set_option maxHeartbeats 2000000
namespace Go.Proofs.YtnkafkikjcgogaaDoor
open Go.Sx F8

theorem refMake0_c {M : Nat → Prop} (w : World) (hM : Old M w) (id base e t : Int) (ps : List (Int × Int)) (a : Option Addr) (n c : Nat) (h : At M w (Sl 2 (ps.map encP) a n c)) (hn : n ≤ 1048576) (i0 : 0 ≤ id) (i1 : id ≤ 2147483647) (rb : right base = true) (b0 : 0 ≤ base) (b1 : base ≤ 1099511627776) (hok : maniErr (mk0 id base e t ps) = .ok) :
    Calls Tryd.prog 20 (List.toArray [.int .i64 id, .int .i64 base, .int .i64 e, .int .i64 t, .slice a n c, .slice none 0 0, .slice none 0 0]) w (Ret No w fun v w9 => ∃ cs, v = .tuple #[.agg (List.toArray cs), flt 0 false 0] ∧ At M w9 (Mrd (mk0 id base e t ps) cs)) := by
  refine enter (n := 52) [(0, .int .i64 id), (1, .int .i64 base), (2, .int .i64 e), (3, .int .i64 t), (4, .slice a n c), (5, .slice none 0 0), (6, .slice none 0 0)] Tryd.func20 rfl (by kernel_rfl) ?_
  refine seq ?_
  refine region [false, false] ?_
  refine l_alloc (M := M) Keep.any hM rfl ze31 (fun k_1 w1 s1 ck_1 nk_1 ok_1 => ?_)
  have lk_1_0 : w.heap.size ≤ k_1 := Nat.le_trans (Evo.refl M _).size nk_1
  have lk_1_w : w.heap.size ≤ k_1 := nk_1
  have e0_1 : Evo M w w1 := s1.no
  have z1 : Evo No w w1 := s1.no
  have hlk_1 := ck_1.lt
  refine l_alloc (M := (Plus M k_1)) Keep.any ok_1 rfl ze57 (fun k_2 w2 s2 ck_2 nk_2 ok_2 => ?_)
  have lk_2_0 : w.heap.size ≤ k_2 := Nat.le_trans e0_1.size nk_2
  have lk_2_1 : w1.heap.size ≤ k_2 := Nat.le_trans (Evo.refl (Plus M k_1) _).size nk_2
  have lk_2_w : w.heap.size ≤ k_2 := Nat.le_trans z1.size nk_2
  have hlk_1_k_2 := ck_1.lt
  have e0_2 : Evo M w w2 := e0_1.trans s2.no
  have e1_2 : Evo (Plus M k_1) w1 w2 := s2.no
  have z2 : Evo No w w2 := z1.trans s2.no
  have c_3 := ck_1.no s2
  have hlk_2 := ck_2.lt
  refine done ?_
  refine thenN ?_
  refine seq ?_
  refine region [true, true, true, true, true, false, true, false, false] ?_
  refine q_move (v := .int .i64 id) rfl rfl ?_
  refine q_move (v := .int .i64 base) rfl rfl ?_
  refine q_move (v := .int .i64 e) rfl rfl ?_
  refine q_move (v := .int .i64 t) rfl rfl ?_
  refine q_move (v := .slice a n c) rfl rfl ?_
  refine l_call Keep.any rfl (refPairs_c (M := (Plus (Plus M k_1) k_2)) w2 ok_2 _ a n c (At.up (N := (Plus (Plus M k_1) k_2)) h e0_2 (fun x0 h1 h0 => by rcases h0 with ((h0 | h0) | h0) <;> first | exact h0 | omega)) (by omega)) en34 rfl rfl (fun v_7 w3 s3 q_8 => ?_)
  have e0_3 : Evo M w w3 := e0_2.trans s3.no
  have e1_3 : Evo (Plus M k_1) w1 w3 := e1_2.trans s3.no
  have e2_3 : Evo (Plus (Plus M k_1) k_2) w2 w3 := s3.no
  have z3 : Evo No w w3 := z2.trans s3.no
  have c_9 := c_3.no s3
  have c_10 := ck_2.no s3
  obtain ⟨a_4, c_5, rfl, r_6⟩ := q_8
  refine q_build (.agg (List.toArray [.int .i64 id, .int .i64 base, .int .i64 e, .int .i64 t, .slice a_4 n c_5, .slice none 0 0])) rfl rfl (fun _ => by kernel_rfl) ?_
  refine l_alloc (M := (Plus (Plus M k_1) k_2)) Keep.any (ok_2.on e2_3) rfl ze31 (fun k_11 w4 s4 ck_11 nk_11 ok_11 => ?_)
  have lk_11_0 : w.heap.size ≤ k_11 := Nat.le_trans e0_3.size nk_11
  have lk_11_1 : w1.heap.size ≤ k_11 := Nat.le_trans e1_3.size nk_11
  have lk_11_2 : w2.heap.size ≤ k_11 := Nat.le_trans e2_3.size nk_11
  have lk_11_3 : w3.heap.size ≤ k_11 := Nat.le_trans (Evo.refl (Plus (Plus M k_1) k_2) _).size nk_11
  have lk_11_w : w.heap.size ≤ k_11 := Nat.le_trans z3.size nk_11
  have hlk_1_k_11 := c_9.lt
  have hlk_2_k_11 := c_10.lt
  have e0_4 : Evo M w w4 := e0_3.trans s4.no
  have e1_4 : Evo (Plus M k_1) w1 w4 := e1_3.trans s4.no
  have e2_4 : Evo (Plus (Plus M k_1) k_2) w2 w4 := e2_3.trans s4.no
  have e3_4 : Evo (Plus (Plus M k_1) k_2) w3 w4 := s4.no
  have z4 : Evo No w w4 := z3.trans s4.no
  have c_12 := c_9.no s4
  have c_13 := c_10.no s4
  have hlk_11 := ck_11.lt
  refine l_store Keep.any rfl rfl ck_11 rfl sz31 rfl (Nat.le_of_ble_eq_true rfl) rfl (cs' := [.int .i64 id, .int .i64 base, .int .i64 e, .int .i64 t, .slice a_4 n c_5, .slice none 0 0]) rfl (fun w5 s5 c_14 => ?_)
  have e0_5 : Evo M w w5 := e0_4.fresh s5 lk_11_0
  have e1_5 : Evo (Plus M k_1) w1 w5 := e1_4.fresh s5 lk_11_1
  have e2_5 : Evo (Plus (Plus M k_1) k_2) w2 w5 := e2_4.fresh s5 lk_11_2
  have e3_5 : Evo (Plus (Plus M k_1) k_2) w3 w5 := e3_4.fresh s5 lk_11_3
  have e4_5 : Evo (Plus (Plus (Plus M k_1) k_2) k_11) w4 w5 := (Evo.refl (Plus (Plus (Plus M k_1) k_2) k_11) _).fstep s5 (inX Plus.in)
  have z5 : Evo No w w5 := z4.fresh s5 lk_11_w
  have c_15 := c_12.on s5 (by first | omega | (intro h0; subst h0; omega))
  have c_16 := c_13.on s5 (by first | omega | (intro h0; subst h0; omega))
  refine done ?_
  refine thenN ?_
  refine seq ?_
  refine region [true, true, false, true, true, true, false, true, true, true, false, true, true, true, false, true, false, true, false] ?_
  refine q_move (v := .int .i64 id) rfl rfl ?_
  refine q_move (v := .int .i64 base) rfl rfl ?_
  refine l_call Keep.any rfl (refObject_c w5 (M := No) id bData base i0 i1 (by decide) (by decide) rb b0 b1) en41 rfl rfl (fun v_17 w6 s6 q_18 => ?_)
  have e0_6 : Evo M w w6 := e0_5.trans s6.no
  have e1_6 : Evo (Plus M k_1) w1 w6 := e1_5.trans s6.no
  have e2_6 : Evo (Plus (Plus M k_1) k_2) w2 w6 := e2_5.trans s6.no
  have e3_6 : Evo (Plus (Plus M k_1) k_2) w3 w6 := e3_5.trans s6.no
  have e4_6 : Evo (Plus (Plus (Plus M k_1) k_2) k_11) w4 w6 := e4_5.trans s6.no
  have z6 : Evo No w w6 := z5.trans s6.no
  have c_19 := c_15.no s6
  have c_20 := c_16.no s6
  have c_21 := c_14.no s6
  obtain rfl := q_18
  refine q_move (v := .slice none 0 0) rfl rfl ?_
  refine q_len rfl rfl el49 ?_
  refine q_move (v := .slice none 0 0) rfl rfl ?_
  refine l_call Keep.any rfl (sum0_c w6 (M := No)) en42 rfl rfl (fun v_22 w7 s7 q_23 => ?_)
  have e0_7 : Evo M w w7 := e0_6.trans s7.no
  have e1_7 : Evo (Plus M k_1) w1 w7 := e1_6.trans s7.no
  have e2_7 : Evo (Plus (Plus M k_1) k_2) w2 w7 := e2_6.trans s7.no
  have e3_7 : Evo (Plus (Plus M k_1) k_2) w3 w7 := e3_6.trans s7.no
  have e4_7 : Evo (Plus (Plus (Plus M k_1) k_2) k_11) w4 w7 := e4_6.trans s7.no
  have z7 : Evo No w w7 := z6.trans s7.no
  have c_24 := c_19.no s7
  have c_25 := c_20.no s7
  have c_26 := c_21.no s7
  obtain rfl := q_23
  refine q_build (.agg (List.toArray [.string (objName id bData base), .int .i64 0, .int .u32 0])) rfl rfl (fun _ => by kernel_rfl) ?_
  refine q_move (v := .int .i64 id) rfl rfl ?_
  refine q_move (v := .int .i64 base) rfl rfl ?_
  refine l_call Keep.any rfl (refObject_c w7 (M := No) id bMarks base i0 i1 (by decide) (by decide) rb b0 b1) en41 rfl rfl (fun v_27 w8 s8 q_28 => ?_)
  have e0_8 : Evo M w w8 := e0_7.trans s8.no
  have e1_8 : Evo (Plus M k_1) w1 w8 := e1_7.trans s8.no
  have e2_8 : Evo (Plus (Plus M k_1) k_2) w2 w8 := e2_7.trans s8.no
  have e3_8 : Evo (Plus (Plus M k_1) k_2) w3 w8 := e3_7.trans s8.no
  have e4_8 : Evo (Plus (Plus (Plus M k_1) k_2) k_11) w4 w8 := e4_7.trans s8.no
  have z8 : Evo No w w8 := z7.trans s8.no
  have c_29 := c_24.no s8
  have c_30 := c_25.no s8
  have c_31 := c_26.no s8
  obtain rfl := q_28
  refine q_move (v := .slice none 0 0) rfl rfl ?_
  refine q_len rfl rfl el49 ?_
  refine q_move (v := .slice none 0 0) rfl rfl ?_
  refine l_call Keep.any rfl (sum0_c w8 (M := No)) en42 rfl rfl (fun v_32 w9 s9 q_33 => ?_)
  have e0_9 : Evo M w w9 := e0_8.trans s9.no
  have e1_9 : Evo (Plus M k_1) w1 w9 := e1_8.trans s9.no
  have e2_9 : Evo (Plus (Plus M k_1) k_2) w2 w9 := e2_8.trans s9.no
  have e3_9 : Evo (Plus (Plus M k_1) k_2) w3 w9 := e3_8.trans s9.no
  have e4_9 : Evo (Plus (Plus (Plus M k_1) k_2) k_11) w4 w9 := e4_8.trans s9.no
  have z9 : Evo No w w9 := z8.trans s9.no
  have c_34 := c_29.no s9
  have c_35 := c_30.no s9
  have c_36 := c_31.no s9
  obtain rfl := q_33
  refine q_build (.agg (List.toArray [.string (objName id bMarks base), .int .i64 0, .int .u32 0])) rfl rfl (fun _ => by kernel_rfl) ?_
  refine l_buildSlice (M := (Plus (Plus (Plus M k_1) k_2) k_11)) (e := 46) (cs := [.string (objName id bData base), .int .i64 0, .int .u32 0, .string (objName id bMarks base), .int .i64 0, .int .u32 0]) Keep.any (ok_11.on e4_9) rfl rfl (fun _ => by kernel_rfl) (fun k_37 w10 s10 fk_37 nk_37 => ?_)
  have e0_10 : Evo M w w10 := e0_9.trans s10.no
  have e1_10 : Evo (Plus M k_1) w1 w10 := e1_9.trans s10.no
  have e2_10 : Evo (Plus (Plus M k_1) k_2) w2 w10 := e2_9.trans s10.no
  have e3_10 : Evo (Plus (Plus M k_1) k_2) w3 w10 := e3_9.trans s10.no
  have e4_10 : Evo (Plus (Plus (Plus M k_1) k_2) k_11) w4 w10 := e4_9.trans s10.no
  have z10 : Evo No w w10 := z9.trans s10.no
  have c_38 := c_34.no s10
  have c_39 := c_35.no s10
  have c_40 := c_36.no s10
  refine q_fieldAddr rfl rfl fl31_5 ?_
  refine l_store Keep.any rfl rfl c_40 rfl sz29 rfl (Nat.le_of_ble_eq_true rfl) rfl (cs' := [.int .i64 id, .int .i64 base, .int .i64 e, .int .i64 t, .slice a_4 n c_5, .slice (some ⟨k_37, 0, none⟩) 2 2]) rfl (fun w11 s11 c_41 => ?_)
  have e0_11 : Evo M w w11 := e0_10.fresh s11 lk_11_0
  have e1_11 : Evo (Plus M k_1) w1 w11 := e1_10.fresh s11 lk_11_1
  have e2_11 : Evo (Plus (Plus M k_1) k_2) w2 w11 := e2_10.fresh s11 lk_11_2
  have e3_11 : Evo (Plus (Plus M k_1) k_2) w3 w11 := e3_10.fresh s11 lk_11_3
  have e4_11 : Evo (Plus (Plus (Plus M k_1) k_2) k_11) w4 w11 := e4_10.fstep s11 (inX Plus.in)
  have e10_11 : Evo (Plus (Plus (Plus M k_1) k_2) k_11) w10 w11 := (Evo.refl (Plus (Plus (Plus M k_1) k_2) k_11) _).fstep s11 (inX Plus.in)
  have z11 : Evo No w w11 := z10.fresh s11 lk_11_w
  have c_42 := c_38.on s11 (by first | omega | (intro h0; subst h0; omega))
  have c_43 := c_39.on s11 (by first | omega | (intro h0; subst h0; omega))
  refine done ?_
  refine thenN ?_
  refine seq ?_
  refine region [false, false, false, false] ?_
  refine l_loadBN ([.int .i64 id, .int .i64 base, .int .i64 e, .int .i64 t, .slice a_4 n c_5, .slice (some ⟨k_37, 0, none⟩) 2 2]) trivial rfl rfl ag31 rfl c_41 rfl ?_
  have hOb := fk_37.imp fun w9 _ h9 => Sl.ofBlk (k := 3) (rows := (mk0 id base e t ps).objects.map encO) h9 rfl (by simp [encO]) rfl
  have hPs := (At.up (N := (Plus (Plus (Plus M k_1) k_2) k_11)) r_6 e3_11 (fun x0 h1 h0 => by rcases h0 with (h0 | h0) <;> first | exact h0 | omega))
  have hOs := (hOb.on e10_11)
  refine l_call Keep.any rfl (refManiOk_c (M := (Plus (Plus (Plus M k_1) k_2) k_11)) w11 (ok_11.on e4_11) (mk0 id base e t ps) _ _ _ _ _ _ hPs hOs (by omega) (by simp) hok) en43 rfl rfl (fun v_44 w12 s12 q_45 => ?_)
  have e0_12 : Evo M w w12 := e0_11.trans s12.no
  have e1_12 : Evo (Plus M k_1) w1 w12 := e1_11.trans s12.no
  have e2_12 : Evo (Plus (Plus M k_1) k_2) w2 w12 := e2_11.trans s12.no
  have e3_12 : Evo (Plus (Plus M k_1) k_2) w3 w12 := e3_11.trans s12.no
  have e4_12 : Evo (Plus (Plus (Plus M k_1) k_2) k_11) w4 w12 := e4_11.trans s12.no
  have e10_12 : Evo (Plus (Plus (Plus M k_1) k_2) k_11) w10 w12 := e10_11.trans s12.no
  have z12 : Evo No w w12 := z11.trans s12.no
  have c_46 := c_42.no s12
  have c_47 := c_43.no s12
  have c_48 := c_41.no s12
  obtain rfl := q_45
  refine l_alloc (M := (Plus (Plus (Plus M k_1) k_2) k_11)) Keep.any (ok_11.on e4_12) rfl ze57 (fun k_49 w13 s13 ck_49 nk_49 ok_49 => ?_)
  have lk_49_0 : w.heap.size ≤ k_49 := Nat.le_trans e0_12.size nk_49
  have lk_49_1 : w1.heap.size ≤ k_49 := Nat.le_trans e1_12.size nk_49
  have lk_49_2 : w2.heap.size ≤ k_49 := Nat.le_trans e2_12.size nk_49
  have lk_49_3 : w3.heap.size ≤ k_49 := Nat.le_trans e3_12.size nk_49
  have lk_49_4 : w4.heap.size ≤ k_49 := Nat.le_trans e4_12.size nk_49
  have lk_49_10 : w10.heap.size ≤ k_49 := Nat.le_trans e10_12.size nk_49
  have lk_49_w : w.heap.size ≤ k_49 := Nat.le_trans z12.size nk_49
  have hlk_1_k_49 := c_46.lt
  have hlk_2_k_49 := c_47.lt
  have hlk_11_k_49 := c_48.lt
  have e0_13 : Evo M w w13 := e0_12.trans s13.no
  have e1_13 : Evo (Plus M k_1) w1 w13 := e1_12.trans s13.no
  have e2_13 : Evo (Plus (Plus M k_1) k_2) w2 w13 := e2_12.trans s13.no
  have e3_13 : Evo (Plus (Plus M k_1) k_2) w3 w13 := e3_12.trans s13.no
  have e4_13 : Evo (Plus (Plus (Plus M k_1) k_2) k_11) w4 w13 := e4_12.trans s13.no
  have e10_13 : Evo (Plus (Plus (Plus M k_1) k_2) k_11) w10 w13 := e10_12.trans s13.no
  have z13 : Evo No w w13 := z12.trans s13.no
  have c_50 := c_46.no s13
  have c_51 := c_47.no s13
  have c_52 := c_48.no s13
  have hlk_49 := ck_49.lt
  refine l_store Keep.any rfl rfl ck_49 rfl sz57 rfl (Nat.le_of_ble_eq_true rfl) rfl (cs' := [.int .i64 0, .bool false, .int .i64 0]) rfl (fun w14 s14 c_53 => ?_)
  have e0_14 : Evo M w w14 := e0_13.fresh s14 lk_49_0
  have e1_14 : Evo (Plus M k_1) w1 w14 := e1_13.fresh s14 lk_49_1
  have e2_14 : Evo (Plus (Plus M k_1) k_2) w2 w14 := e2_13.fresh s14 lk_49_2
  have e3_14 : Evo (Plus (Plus M k_1) k_2) w3 w14 := e3_13.fresh s14 lk_49_3
  have e4_14 : Evo (Plus (Plus (Plus M k_1) k_2) k_11) w4 w14 := e4_13.fresh s14 lk_49_4
  have e10_14 : Evo (Plus (Plus (Plus M k_1) k_2) k_11) w10 w14 := e10_13.fresh s14 lk_49_10
  have e13_14 : Evo (Plus (Plus (Plus (Plus M k_1) k_2) k_11) k_49) w13 w14 := (Evo.refl (Plus (Plus (Plus (Plus M k_1) k_2) k_11) k_49) _).fstep s14 (inX Plus.in)
  have z14 : Evo No w w14 := z13.fresh s14 lk_49_w
  have c_54 := c_50.on s14 (by first | omega | (intro h0; subst h0; omega))
  have c_55 := c_51.on s14 (by first | omega | (intro h0; subst h0; omega))
  have c_56 := c_52.on s14 (by first | omega | (intro h0; subst h0; omega))
  refine done ?_
  refine thenN ?_
  refine seq ?_
  refine seq ?_
  refine region [true, false, true] ?_
  refine q_fieldAddr rfl rfl fl57_0 ?_
  refine l_loadB trivial rfl rfl pl3 c_53 rfl ?_
  refine q_neq rfl rfl rfl ?_
  refine done ?_
  refine thenN ?_
  refine cond_bf rfl (notF (by decide)) ?_
  refine wp_skip ?_
  refine thenN ?_
  refine seq ?_
  refine regionD (fun x => x = k_1 ∨ x = k_2) (.q 0 (.l 1 (.l 2 (.l 3 (.nil))))) mixed (by kernel_rfl) (by kernel_rfl) (by kernel_rfl) (fun w15 s15 => ?_)
  have e0_15 : Evo M w w15 := e0_14.trans s15.no
  have e1_15 : Evo (Plus M k_1) w1 w15 := e1_14.trans s15.no
  have e2_15 : Evo (Plus (Plus M k_1) k_2) w2 w15 := e2_14.trans s15.no
  have e3_15 : Evo (Plus (Plus M k_1) k_2) w3 w15 := e3_14.trans s15.no
  have e4_15 : Evo (Plus (Plus (Plus M k_1) k_2) k_11) w4 w15 := e4_14.trans s15.no
  have e10_15 : Evo (Plus (Plus (Plus M k_1) k_2) k_11) w10 w15 := e10_14.trans s15.no
  have e13_15 : Evo (Plus (Plus (Plus (Plus M k_1) k_2) k_11) k_49) w13 w15 := e13_14.trans s15.no
  have z15 : Evo No w w15 := z14.trans s15.no
  have c_57 := c_54.no s15
  have c_58 := c_55.no s15
  have c_59 := c_56.no s15
  have c_60 := c_53.no s15
  have rgr_61_15 : Evo (fun x => x = k_1 ∨ x = k_2) w14 w15 := s15.no
  refine q_loadBN ([.int .i64 id, .int .i64 base, .int .i64 e, .int .i64 t, .slice a_4 n c_5, .slice (some ⟨k_37, 0, none⟩) 2 2]) rfl rfl ag31 rfl (fun _ e => c_56.on e (by omega)) rfl ?_
  refine l_call (Keep.evo rgr_61_15 noX) rfl (none_c w15 (M := No) (Old.no _)) en44 rfl rfl (fun v_62 w16 s16 q_63 => ?_)
  have e0_16 : Evo M w w16 := e0_15.trans s16.no
  have e1_16 : Evo (Plus M k_1) w1 w16 := e1_15.trans s16.no
  have e2_16 : Evo (Plus (Plus M k_1) k_2) w2 w16 := e2_15.trans s16.no
  have e3_16 : Evo (Plus (Plus M k_1) k_2) w3 w16 := e3_15.trans s16.no
  have e4_16 : Evo (Plus (Plus (Plus M k_1) k_2) k_11) w4 w16 := e4_15.trans s16.no
  have e10_16 : Evo (Plus (Plus (Plus M k_1) k_2) k_11) w10 w16 := e10_15.trans s16.no
  have e13_16 : Evo (Plus (Plus (Plus (Plus M k_1) k_2) k_11) k_49) w13 w16 := e13_15.trans s16.no
  have z16 : Evo No w w16 := z15.trans s16.no
  have c_64 := c_57.no s16
  have c_65 := c_58.no s16
  have c_66 := c_59.no s16
  have c_67 := c_60.no s16
  have rgr_61_16 : Evo (fun x => x = k_1 ∨ x = k_2) w14 w16 := rgr_61_15.trans s16.no
  obtain rfl := q_63
  refine l_store (Keep.evo rgr_61_16 (inX (.inl rfl))) rfl rfl c_64 rfl sz31 rfl (Nat.le_of_ble_eq_true rfl) rfl (cs' := [.int .i64 id, .int .i64 base, .int .i64 e, .int .i64 t, .slice a_4 n c_5, .slice (some ⟨k_37, 0, none⟩) 2 2]) rfl (fun w17 s17 c_68 => ?_)
  have e0_17 : Evo M w w17 := e0_16.fresh s17 lk_1_0
  have e1_17 : Evo (Plus M k_1) w1 w17 := e1_16.fstep s17 (inX Plus.in)
  have e2_17 : Evo (Plus (Plus M k_1) k_2) w2 w17 := e2_16.fstep s17 (inX (Plus.old Plus.in))
  have e3_17 : Evo (Plus (Plus M k_1) k_2) w3 w17 := e3_16.fstep s17 (inX (Plus.old Plus.in))
  have e4_17 : Evo (Plus (Plus (Plus M k_1) k_2) k_11) w4 w17 := e4_16.fstep s17 (inX (Plus.old (Plus.old Plus.in)))
  have e10_17 : Evo (Plus (Plus (Plus M k_1) k_2) k_11) w10 w17 := e10_16.fstep s17 (inX (Plus.old (Plus.old Plus.in)))
  have e13_17 : Evo (Plus (Plus (Plus (Plus M k_1) k_2) k_11) k_49) w13 w17 := e13_16.fstep s17 (inX (Plus.old (Plus.old (Plus.old Plus.in))))
  have z17 : Evo No w w17 := z16.fresh s17 lk_1_w
  have c_69 := c_65.on s17 (by first | omega | (intro h0; subst h0; omega))
  have c_70 := c_66.on s17 (by first | omega | (intro h0; subst h0; omega))
  have c_71 := c_67.on s17 (by first | omega | (intro h0; subst h0; omega))
  have rgr_61_17 : Evo (fun x => x = k_1 ∨ x = k_2) w14 w17 := rgr_61_16.fstep s17 (inX (.inl rfl))
  refine l_store (Keep.evo rgr_61_17 (inX (.inr rfl))) rfl rfl c_69 rfl sz57 rfl (Nat.le_of_ble_eq_true rfl) rfl (cs' := [.int .i64 0, .bool false, .int .i64 0]) rfl (fun w18 s18 c_72 => ?_)
  have e0_18 : Evo M w w18 := e0_17.fresh s18 lk_2_0
  have e1_18 : Evo (Plus M k_1) w1 w18 := e1_17.fresh s18 lk_2_1
  have e2_18 : Evo (Plus (Plus M k_1) k_2) w2 w18 := e2_17.fstep s18 (inX Plus.in)
  have e3_18 : Evo (Plus (Plus M k_1) k_2) w3 w18 := e3_17.fstep s18 (inX Plus.in)
  have e4_18 : Evo (Plus (Plus (Plus M k_1) k_2) k_11) w4 w18 := e4_17.fstep s18 (inX (Plus.old Plus.in))
  have e10_18 : Evo (Plus (Plus (Plus M k_1) k_2) k_11) w10 w18 := e10_17.fstep s18 (inX (Plus.old Plus.in))
  have e13_18 : Evo (Plus (Plus (Plus (Plus M k_1) k_2) k_11) k_49) w13 w18 := e13_17.fstep s18 (inX (Plus.old (Plus.old Plus.in)))
  have z18 : Evo No w w18 := z17.fresh s18 lk_2_w
  have c_73 := c_68.on s18 (by first | omega | (intro h0; subst h0; omega))
  have c_74 := c_70.on s18 (by first | omega | (intro h0; subst h0; omega))
  have c_75 := c_71.on s18 (by first | omega | (intro h0; subst h0; omega))
  have rgr_61_18 : Evo (fun x => x = k_1 ∨ x = k_2) w14 w18 := rgr_61_17.fstep s18 (inX (.inr rfl))
  refine done ?_
  refine thenN ?_
  refine wp_ret ?_
  refine retMix (vs := [.agg (List.toArray [.int .i64 id, .int .i64 base, .int .i64 e, .int .i64 t, .slice a_4 n c_5, .slice (some ⟨k_37, 0, none⟩) 2 2]), .agg (List.toArray [.int .i64 0, .bool false, .int .i64 0])]) rfl rfl (.cell rfl ag31 c_73 rfl (.cell rfl ag57 c_72 rfl .nil)) ?_
  exact ⟨z18, _, rfl, Mrd.mk (m := mk0 id base e t ps) (At.to (M := (Plus (Plus (Plus (Plus M k_1) k_2) k_11) k_49)) (At.up (N := (Plus (Plus (Plus (Plus M k_1) k_2) k_11) k_49)) r_6 e3_18 (fun x0 h1 h0 => by rcases h0 with ((h0 | h0) | h0) <;> first | exact h0 | omega)) (fun _ _ h => .inl (.inl (.inl (.inl (h)))))) (At.to (M := (Plus (Plus (Plus (Plus M k_1) k_2) k_11) k_49)) (At.up (N := (Plus (Plus (Plus (Plus M k_1) k_2) k_11) k_49)) hOb e10_18 (fun x0 h1 h0 => by rcases h0 with (h0 | h0) <;> first | exact h0 | omega)) (fun _ _ h => .inl (.inl (.inl (.inl (h)))))) (by omega) (by simp)⟩

theorem one_c {M : Nat → Prop} (w : World) (hM : Old M w) (id base : Int) (i0 : 0 ≤ id) (i1 : id ≤ 2147483647) (b0 : 0 ≤ base) (b1 : base + 5 ≤ 1099511627776) :
    Calls Tryd.prog 10 (List.toArray [.int .i64 id, .int .i64 base]) w (Ret No w fun v w9 => ∃ cs, v = .agg (List.toArray cs) ∧ At M w9 (Mrd (oneM id base) cs)) := by
  refine enter (n := 19) [(0, .int .i64 id), (1, .int .i64 base)] Tryd.func10 rfl (by kernel_rfl) ?_
  have rb : right base = true := (by unfold right; simp; omega)
  have hok := oneM_ok i0 i1 b0 b1
  refine seq ?_
  refine region [false] ?_
  refine l_alloc (M := M) Keep.any hM rfl ze31 (fun k_1 w1 s1 ck_1 nk_1 ok_1 => ?_)
  have lk_1_0 : w.heap.size ≤ k_1 := Nat.le_trans (Evo.refl M _).size nk_1
  have lk_1_w : w.heap.size ≤ k_1 := nk_1
  have e0_1 : Evo M w w1 := s1.no
  have z1 : Evo No w w1 := s1.no
  have hlk_1 := ck_1.lt
  refine done ?_
  refine thenN ?_
  refine seq ?_
  refine region [true, true, true, true, true, true, false, false, true, true, true, false, false, false, false] ?_
  refine q_move (v := .int .i64 id) rfl rfl ?_
  refine q_move (v := .int .i64 base) rfl rfl ?_
  refine q_move (v := .int .i64 base) rfl rfl ?_
  refine q_add rfl rfl rfl (wi64 (by omega) (by omega)) ?_
  refine q_move (v := .int .i64 base) rfl rfl ?_
  refine q_build (.agg (List.toArray [.int .i64 1, .int .i64 base])) rfl rfl (fun _ => by kernel_rfl) ?_
  refine l_buildSlice (M := (Plus M k_1)) (e := 61) (cs := [.int .i64 1, .int .i64 base]) Keep.any ok_1 rfl rfl (fun _ => by kernel_rfl) (fun k_2 w2 s2 fk_2 nk_2 => ?_)
  have e0_2 : Evo M w w2 := e0_1.trans s2.no
  have e1_2 : Evo (Plus M k_1) w1 w2 := s2.no
  have z2 : Evo No w w2 := z1.trans s2.no
  have c_3 := ck_1.no s2
  have hPs := fk_2.imp fun w9 _ h9 => Sl.ofBlk (k := 2) (rows := [((1 : Int), base)].map encP) h9 rfl (by simp [encP]) rfl
  refine l_call Keep.any rfl (refMake0_c (M := (Plus M k_1)) w2 (ok_1.on e1_2) id base (base + 5) 0 [(1, base)] _ _ _ (hPs.on (Evo.refl (Plus M k_1) _)) (by simp) i0 i1 rb b0 (by omega) hok) en20 rfl rfl (fun v_8 w3 s3 q_9 => ?_)
  have e0_3 : Evo M w w3 := e0_2.trans s3.no
  have e1_3 : Evo (Plus M k_1) w1 w3 := e1_2.trans s3.no
  have e2_3 : Evo (Plus M k_1) w2 w3 := s3.no
  have z3 : Evo No w w3 := z2.trans s3.no
  have c_10 := c_3.no s3
  obtain ⟨cs_4, rfl, hC_6⟩ := q_9
  obtain ⟨eam_7, enm_7, ecm_7, oam_7, onm_7, ocm_7, rfl, eNm_7, oNm_7, hem_7, hom_7⟩ := Mrd.open hC_6
  refine q_move (v := .tuple #[.agg (List.toArray [.int .i64 id, .int .i64 base, .int .i64 (base + 5), .int .i64 0, .slice eam_7 enm_7 ecm_7, .slice oam_7 onm_7 ocm_7]), .agg (List.toArray [.int .i64 0, .bool false, .int .i64 0])]) rfl rfl ?_
  refine q_extract rfl rfl rfl ?_
  refine q_extract rfl rfl rfl ?_
  refine l_alloc (M := (Plus M k_1)) Keep.any (ok_1.on e1_3) rfl ze31 (fun k_11 w4 s4 ck_11 nk_11 ok_11 => ?_)
  have lk_11_0 : w.heap.size ≤ k_11 := Nat.le_trans e0_3.size nk_11
  have lk_11_1 : w1.heap.size ≤ k_11 := Nat.le_trans e1_3.size nk_11
  have lk_11_2 : w2.heap.size ≤ k_11 := Nat.le_trans e2_3.size nk_11
  have lk_11_3 : w3.heap.size ≤ k_11 := Nat.le_trans (Evo.refl (Plus M k_1) _).size nk_11
  have lk_11_w : w.heap.size ≤ k_11 := Nat.le_trans z3.size nk_11
  have hlk_1_k_11 := c_10.lt
  have e0_4 : Evo M w w4 := e0_3.trans s4.no
  have e1_4 : Evo (Plus M k_1) w1 w4 := e1_3.trans s4.no
  have e2_4 : Evo (Plus M k_1) w2 w4 := e2_3.trans s4.no
  have e3_4 : Evo (Plus M k_1) w3 w4 := s4.no
  have z4 : Evo No w w4 := z3.trans s4.no
  have c_12 := c_10.no s4
  have hlk_11 := ck_11.lt
  refine l_alloc (M := (Plus (Plus M k_1) k_11)) Keep.any ok_11 rfl ze57 (fun k_13 w5 s5 ck_13 nk_13 ok_13 => ?_)
  have lk_13_0 : w.heap.size ≤ k_13 := Nat.le_trans e0_4.size nk_13
  have lk_13_1 : w1.heap.size ≤ k_13 := Nat.le_trans e1_4.size nk_13
  have lk_13_2 : w2.heap.size ≤ k_13 := Nat.le_trans e2_4.size nk_13
  have lk_13_3 : w3.heap.size ≤ k_13 := Nat.le_trans e3_4.size nk_13
  have lk_13_4 : w4.heap.size ≤ k_13 := Nat.le_trans (Evo.refl (Plus (Plus M k_1) k_11) _).size nk_13
  have lk_13_w : w.heap.size ≤ k_13 := Nat.le_trans z4.size nk_13
  have hlk_1_k_13 := c_12.lt
  have hlk_11_k_13 := ck_11.lt
  have e0_5 : Evo M w w5 := e0_4.trans s5.no
  have e1_5 : Evo (Plus M k_1) w1 w5 := e1_4.trans s5.no
  have e2_5 : Evo (Plus M k_1) w2 w5 := e2_4.trans s5.no
  have e3_5 : Evo (Plus M k_1) w3 w5 := e3_4.trans s5.no
  have e4_5 : Evo (Plus (Plus M k_1) k_11) w4 w5 := s5.no
  have z5 : Evo No w w5 := z4.trans s5.no
  have c_14 := c_12.no s5
  have c_15 := ck_11.no s5
  have hlk_13 := ck_13.lt
  refine l_store Keep.any rfl rfl c_15 rfl sz31 rfl (Nat.le_of_ble_eq_true rfl) rfl (cs' := [.int .i64 id, .int .i64 base, .int .i64 (base + 5), .int .i64 0, .slice eam_7 enm_7 ecm_7, .slice oam_7 onm_7 ocm_7]) rfl (fun w6 s6 c_16 => ?_)
  have e0_6 : Evo M w w6 := e0_5.fresh s6 lk_11_0
  have e1_6 : Evo (Plus M k_1) w1 w6 := e1_5.fresh s6 lk_11_1
  have e2_6 : Evo (Plus M k_1) w2 w6 := e2_5.fresh s6 lk_11_2
  have e3_6 : Evo (Plus M k_1) w3 w6 := e3_5.fresh s6 lk_11_3
  have e4_6 : Evo (Plus (Plus M k_1) k_11) w4 w6 := e4_5.fstep s6 (inX Plus.in)
  have e5_6 : Evo (Plus (Plus (Plus M k_1) k_11) k_13) w5 w6 := (Evo.refl (Plus (Plus (Plus M k_1) k_11) k_13) _).fstep s6 (inX (Plus.old Plus.in))
  have z6 : Evo No w w6 := z5.fresh s6 lk_11_w
  have c_17 := c_14.on s6 (by first | omega | (intro h0; subst h0; omega))
  have c_18 := ck_13.on s6 (by first | omega | (intro h0; subst h0; omega))
  refine l_store Keep.any rfl rfl c_18 rfl sz57 rfl (Nat.le_of_ble_eq_true rfl) rfl (cs' := [.int .i64 0, .bool false, .int .i64 0]) rfl (fun w7 s7 c_19 => ?_)
  have e0_7 : Evo M w w7 := e0_6.fresh s7 lk_13_0
  have e1_7 : Evo (Plus M k_1) w1 w7 := e1_6.fresh s7 lk_13_1
  have e2_7 : Evo (Plus M k_1) w2 w7 := e2_6.fresh s7 lk_13_2
  have e3_7 : Evo (Plus M k_1) w3 w7 := e3_6.fresh s7 lk_13_3
  have e4_7 : Evo (Plus (Plus M k_1) k_11) w4 w7 := e4_6.fresh s7 lk_13_4
  have e5_7 : Evo (Plus (Plus (Plus M k_1) k_11) k_13) w5 w7 := e5_6.fstep s7 (inX Plus.in)
  have z7 : Evo No w w7 := z6.fresh s7 lk_13_w
  have c_20 := c_17.on s7 (by first | omega | (intro h0; subst h0; omega))
  have c_21 := c_16.on s7 (by first | omega | (intro h0; subst h0; omega))
  refine done ?_
  refine thenN ?_
  refine seq ?_
  refine region [false, false] ?_
  refine l_loadBN ([.int .i64 id, .int .i64 base, .int .i64 (base + 5), .int .i64 0, .slice eam_7 enm_7 ecm_7, .slice oam_7 onm_7 ocm_7]) trivial rfl rfl ag31 rfl c_21 rfl ?_
  refine l_store Keep.any rfl rfl c_20 rfl sz31 rfl (Nat.le_of_ble_eq_true rfl) rfl (cs' := [.int .i64 id, .int .i64 base, .int .i64 (base + 5), .int .i64 0, .slice eam_7 enm_7 ecm_7, .slice oam_7 onm_7 ocm_7]) rfl (fun w8 s8 c_22 => ?_)
  have e0_8 : Evo M w w8 := e0_7.fresh s8 lk_1_0
  have e1_8 : Evo (Plus M k_1) w1 w8 := e1_7.fstep s8 (inX Plus.in)
  have e2_8 : Evo (Plus M k_1) w2 w8 := e2_7.fstep s8 (inX Plus.in)
  have e3_8 : Evo (Plus M k_1) w3 w8 := e3_7.fstep s8 (inX Plus.in)
  have e4_8 : Evo (Plus (Plus M k_1) k_11) w4 w8 := e4_7.fstep s8 (inX (Plus.old Plus.in))
  have e5_8 : Evo (Plus (Plus (Plus M k_1) k_11) k_13) w5 w8 := e5_7.fstep s8 (inX (Plus.old (Plus.old Plus.in)))
  have z8 : Evo No w w8 := z7.fresh s8 lk_1_w
  have c_23 := c_21.on s8 (by first | omega | (intro h0; subst h0; omega))
  have c_24 := c_19.on s8 (by first | omega | (intro h0; subst h0; omega))
  refine done ?_
  refine thenN ?_
  refine wp_ret ?_
  refine retCell (Q := fun _ _ _ => True) rfl rfl ag31 c_22 rfl ?_
  exact ⟨z8, _, rfl, Mrd.mk (m := oneM id base) (At.to (M := (Plus (Plus (Plus M k_1) k_11) k_13)) (At.up (N := (Plus (Plus (Plus M k_1) k_11) k_13)) hem_7 e3_8 (fun x0 h1 h0 => by rcases h0 with ((h0 | h0) | h0) <;> first | exact h0 | omega)) (fun _ _ h => .inl (.inl (.inl (h))))) (At.to (M := (Plus (Plus (Plus M k_1) k_11) k_13)) (At.up (N := (Plus (Plus (Plus M k_1) k_11) k_13)) hom_7 e3_8 (fun x0 h1 h0 => by rcases h0 with ((h0 | h0) | h0) <;> first | exact h0 | omega)) (fun _ _ h => .inl (.inl (.inl (h))))) eNm_7 oNm_7⟩
end Go.Proofs.YtnkafkikjcgogaaDoor
