import Derived.Test.YtnkafkikjcgogaaDoorSxi
import Derived.Test.YtnkafkikjcgogaaDoorProg
import Derived.Test.YtnkafkikjcgogaaDoorBmod
/- Closed facts on the translation. -/
set_option maxRecDepth 100000
set_option linter.unusedVariables false
set_option linter.unusedSimpArgs false
namespace Go.Proofs.YtnkafkikjcgogaaDoor.FD
open Go.Sx
theorem mixed : Tryd.prog.follows .mixedOrders = true := by kernel_rfl
theorem ag156 : aggB Tryd.prog 156 = some 16 := by kernel_rfl
theorem ap49 : appB Tryd.prog 49 = some (5, 1, 1) := by kernel_rfl
theorem ar156 : arrB Tryd.prog 156 = some (16, 44, 1) := by kernel_rfl
theorem el138 : elemB Tryd.prog 138 = some (49, 1) := by kernel_rfl
theorem el49 : elemB Tryd.prog 49 = some (5, 1) := by kernel_rfl
theorem en113 : entB Tryd.prog 113 = true := by kernel_rfl
theorem en59 : entB Tryd.prog 59 = true := by kernel_rfl
theorem en64 : entB Tryd.prog 64 = true := by kernel_rfl
theorem en92 : entB Tryd.prog 92 = true := by kernel_rfl
theorem in3 : Tryd.prog.underlying 3 = some (.int .i64) := by kernel_rfl
theorem in44 : Tryd.prog.underlying 44 = some (.int .u32) := by kernel_rfl
theorem in5 : Tryd.prog.underlying 5 = some (.int .u8) := by kernel_rfl
theorem in81 : Tryd.prog.underlying 81 = some (.int .u64) := by kernel_rfl
theorem pl44 : plainB Tryd.prog 44 = true := by kernel_rfl
theorem pl49 : plainB Tryd.prog 49 = true := by kernel_rfl
theorem pl5 : plainB Tryd.prog 5 = true := by kernel_rfl
theorem sl49 : sliceB Tryd.prog 49 = true := by kernel_rfl
theorem sz156 : szB Tryd.prog 156 = some 16 := by kernel_rfl
theorem sz44 : szB Tryd.prog 44 = some 1 := by kernel_rfl
theorem un49 : Tryd.prog.underlying 49 = some (.slice 5) := by kernel_rfl
theorem ze156 : zeroB Tryd.prog 156 = some [.int .u32 0, .int .u32 0, .int .u32 0, .int .u32 0, .int .u32 0, .int .u32 0, .int .u32 0, .int .u32 0, .int .u32 0, .int .u32 0, .int .u32 0, .int .u32 0, .int .u32 0, .int .u32 0, .int .u32 0, .int .u32 0] := by kernel_rfl
end Go.Proofs.YtnkafkikjcgogaaDoor.FD

set_option linter.unusedVariables false
set_option linter.unusedSimpArgs false
set_option maxRecDepth 4000
set_option maxHeartbeats 2000000
namespace Go.Proofs.YtnkafkikjcgogaaDoor
open Go.Sx FD

theorem cloneBytesO_c {M : Nat → Prop} (w : World) (hM : Old M w) (rows : List (List Value)) (a : Option Addr) (n c : Nat) (h : At M w (Sl 1 rows a n c)) (hn : n ≤ 2147483648) :
    Calls Tryd.prog 59 (List.toArray [.slice a n c]) w (Ret No w fun v w9 => ∃ a9 c9, v = .slice a9 n c9 ∧ Own 1 5 rows a9 n c9 w9 ∧ ∀ b, OwnB a9 b → w.heap.size ≤ b) := by
  refine enter (n := 8) [(0, .slice a n c)] Tryd.func59 rfl (by kernel_rfl) ?_
  refine seq ?_
  refine region [true] ?_
  refine q_assign (v := .slice none 0 0) rfl rfl ?_
  refine done ?_
  refine thenN ?_
  refine seq ?_
  refine seq ?_
  refine region [true, true] ?_
  refine q_move (v := .slice a n c) rfl rfl ?_
  refine q_slNilEql rfl rfl sl49 ?_
  refine done ?_
  refine thenN ?_
  refine cond_b rfl (fun h_1 => ?_) (fun h_1 => ?_)
  · skip
    refine seq ?_
    refine region [true] ?_
    refine q_assign (v := .slice none 0 0) rfl rfl ?_
    refine done ?_
    refine thenN ?_
    refine wp_ret ?_
    refine thenR ?_
    refine ret1v (.slice none 0 0) rfl rfl ?_
    obtain ⟨hz1, hz2⟩ := h.here.zero h_1
    subst hz1 hz2
    exact ⟨Evo.refl _ _, none, 0, rfl, Own.nil _ _ _, own_lo_none⟩
  · skip
    refine wp_skip ?_
    refine thenN ?_
    refine seq ?_
    refine region [false, true, false, true] ?_
    refine l_buildSlice (M := M) (e := 5) (cs := []) Keep.any hM rfl rfl (fun _ => by kernel_rfl) (fun k_2 w1 s1 fk_2 nk_2 => ?_)
    have e0_1 : Evo M w w1 := s1.no
    have z1 : Evo No w w1 := s1.no
    refine q_move (v := .slice a n c) rfl rfl ?_
    refine l_append (k := 1) (news := rows) Keep.any rfl rfl rfl ap49 (Own.empty (fk_2.now (Evo.refl M _))) (Src.of un49 (h.now e0_1)) (h.now e0_1).len (h.now e0_1).shape (by omega) (by decide) (fun am_3 cm_3 w2 s2 Om_3 fm_3 nm_3 => ?_)
    have lom_3_0 := own_lo fm_3 (own_lo_some (Nat.le_trans (Evo.refl M _).size nk_2)) e0_1.size
    have lom_3_w := own_lo fm_3 (own_lo_some (Nat.le_trans (Evo.refl No _).size nk_2)) z1.size
    have e0_2 : Evo M w w2 := Evo.own e0_1 s2 (own_lo_some (Nat.le_trans (Evo.refl M _).size nk_2))
    have z2 : Evo No w w2 := Evo.own z1 s2 (own_lo_some (Nat.le_trans (Evo.refl No _).size nk_2))
    refine q_assign (v := .slice am_3 (0 + n) cm_3) rfl rfl ?_
    refine done ?_
    refine thenN ?_
    refine wp_ret ?_
    refine ret1v (.slice am_3 (0 + n) cm_3) rfl rfl ?_
    rw [show 0 + n = n from Nat.zero_add n] at *
    exact ⟨z2, _, _, rfl, Om_3, lom_3_w⟩

theorem put_c {M : Nat → Prop} (w : World) (hM : Old M w) (bs : List UInt8) (a : Option Addr) (n c : Nat) (h : At M w (Sl 1 (bs.map encB) a n c)) (hn : n ≤ 1073741824) (x : BitVec 64) :
    Calls Tryd.prog 36 (List.toArray [.slice a n c, .int .u64 (x.toNat : Int)]) w (Ret No w fun v w9 => ∃ a9 n9 c9, v = .slice a9 n9 c9 ∧ Own 1 5 ((bs ++ putN x.toNat).map encB) a9 n9 c9 w9 ∧ ∀ b, OwnB a9 b → w.heap.size ≤ b) := by
  refine enter (n := 23) [(0, .slice a n c), (1, .int .u64 (x.toNat : Int))] Tryd.func36 rfl (by kernel_rfl) ?_
  refine seq ?_
  refine region [true] ?_
  refine q_assign (v := .slice none 0 0) rfl rfl ?_
  refine done ?_
  refine thenN ?_
  refine seq ?_
  refine region [true, false, true] ?_
  refine q_move (v := .slice a n c) rfl rfl ?_
  refine l_call Keep.any rfl (cloneBytesO_c (M := M) w hM (bs.map encB) a n c (h.on (Evo.refl M _)) (by omega)) en59 rfl rfl (fun v_5 w1 s1 q_6 => ?_)
  have e0_1 : Evo M w w1 := s1.no
  have z1 : Evo No w w1 := s1.no
  obtain ⟨a_1, c_2, rfl, O_3, lo_4⟩ := q_6
  have lo_7 := own_up lo_4 (Evo.refl M _).size
  have lo_8 : ∀ b, OwnB a_1 b → w.heap.size ≤ b := lo_4
  refine q_assign (v := .slice a_1 n c_2) rfl rfl ?_
  refine done ?_
  refine thenN ?_
  refine seq ?_
  refine blk ?_
  refine loopN [8, 9, 12, 13, 14, 15, 16, 17, 5, 10, 11, 1] (fun k9 R9 wJ => ∃ (y : BitVec 64), ∃ (q : List UInt8), ∃ (b9 : Option Addr), ∃ (n9 : Nat), ∃ (d9 : Nat), ∃ (j : Nat), R9 = [(1, .int .u64 (y.toNat : Int)), (5, .slice b9 n9 d9)] ∧ (j ≤ 9) ∧ (y.toNat < lim j) ∧ (q ++ putN y.toNat = bs ++ putN x.toNat) ∧ (n9 ≤ n + j) ∧ (Own 1 5 (q.map encB) b9 n9 d9 wJ) ∧ (∀ b, OwnB b9 b → w.heap.size ≤ b) ∧ (Evo No w wJ) ∧ k9 = 9 - j) ⟨_, _, ⟨x, bs, a_1, n, c_2, 0, rfl, by omega, x.isLt, rfl, by omega, O_3, lo_8, z1, rfl⟩, ⟨(by kernel_rfl), (by kernel_rfl), trivial⟩⟩ (fun k9 R9 u_9 w2 J_10 => ?_)
  obtain ⟨y, q, b9, n9, d9, j, rfl, hj, hy, hq, hn9, O9, lo9, z9, rfl⟩ := J_10
  have e0_2 : Evo M w w2 := z9.no
  refine seq ?_
  refine seq ?_
  refine region [true, true] ?_
  refine q_move (v := .int .u64 (y.toNat : Int)) rfl rfl ?_
  refine q_geq rfl rfl rfl ?_
  refine done ?_
  refine thenN ?_
  refine cond_b rfl (fun h_11 => ?_) (fun h_11 => ?_)
  · skip
    have h_11p := of_decide_eq_true h_11
    refine wp_skip ?_
    refine thenN ?_
    refine seq ?_
    refine blk ?_
    refine region [true, true, true, true, false, false, true] ?_
    refine q_move (v := .slice b9 n9 d9) rfl rfl ?_
    refine q_move (v := .int .u64 (y.toNat : Int)) rfl rfl ?_
    refine q_bvConv (j := .u64) (k := .u8) y rfl rfl rfl in81 in5 ?_
    refine q_bvOr (k := .u8) rfl (y.setWidth 8) (128#8) rfl rfl rfl ?_
    refine l_buildSlice (M := M) (e := 5) (cs := [.int .u8 (((y.setWidth 8) ||| (128#8)).toNat : Int)]) Keep.any (hM.on z9) rfl rfl (fun _ => by kernel_rfl) (fun k_12 w3 s3 fk_12 nk_12 => ?_)
    have e0_3 : Evo M w w3 := e0_2.trans s3.no
    have z3 : Evo No w w3 := z9.trans s3.no
    have O_13 := O9.no s3
    refine l_append (k := 1) (news := [[.int .u8 (((y.setWidth 8) ||| (128#8)).toNat : Int)]]) Keep.any rfl rfl rfl ap49 O_13 (Src.of un49 (Sl.ofBlk (k := 1) (rows := [[.int .u8 (((y.setWidth 8) ||| (128#8)).toNat : Int)]]) (fk_12.now (Evo.refl M _)) rfl (by simp) rfl)) (Sl.ofBlk (k := 1) (rows := [[.int .u8 (((y.setWidth 8) ||| (128#8)).toNat : Int)]]) (fk_12.now (Evo.refl M _)) rfl (by simp) rfl).len (Sl.ofBlk (k := 1) (rows := [[.int .u8 (((y.setWidth 8) ||| (128#8)).toNat : Int)]]) (fk_12.now (Evo.refl M _)) rfl (by simp) rfl).shape (by omega) (by decide) (fun am_14 cm_14 w4 s4 Om_14 fm_14 nm_14 => ?_)
    have lom_14_0 := own_lo fm_14 lo9 e0_3.size
    have lom_14_w := own_lo fm_14 lo9 z3.size
    have e0_4 : Evo M w w4 := Evo.own e0_3 s4 lo9
    have z4 : Evo No w w4 := Evo.own z3 s4 lo9
    refine q_assign (v := .slice am_14 (n9 + 1) cm_14) rfl rfl ?_
    refine done ?_
    refine blkN ?_
    refine thenN ?_
    refine region [true, true, true] ?_
    refine q_move (v := .int .u64 (y.toNat : Int)) rfl rfl ?_
    refine q_bvShr (k := .u64) rfl y 7 (by decide) rfl rfl rfl ?_
    refine q_assign (v := .int .u64 ((y >>> 7).toNat : Int)) rfl rfl ?_
    refine done ?_
    refine thenN ?_
    obtain ⟨hj9, hl9⟩ := lim_step hj hy (by omega)
    have hq9 : (q ++ [(⟨y.setWidth 8 ||| 128#8⟩ : UInt8)]) ++ putN (y >>> 7).toNat = bs ++ putN x.toNat := by rw [List.append_assoc, ← hq, shr7, putN_hi (n := y.toNat) (by omega), byte_hi]; rfl
    refine ⟨_, _, ?_, ⟨y >>> 7, q ++ [⟨y.setWidth 8 ||| 128#8⟩], am_14, (n9 + 1), cm_14, j + 1, rfl, by omega, (by rw [shr7]; exact hl9), hq9, by omega, (by rw [List.map_append]; exact Om_14), lom_14_w, z4, rfl⟩, Env.near_at 26 (by kernel_rfl) (by kernel_rfl) ⟨(by kernel_rfl), (by kernel_rfl), trivial⟩⟩
    omega
  · skip
    have h_11p := of_decide_eq_false h_11
    refine wp_exit ?_
    refine thenX ?_
    refine thenX ?_
    refine blkX ?_
    refine thenN ?_
    refine seq ?_
    refine region [true, true, true, false, false, true] ?_
    refine q_move (v := .slice b9 n9 d9) rfl rfl ?_
    refine q_move (v := .int .u64 (y.toNat : Int)) rfl rfl ?_
    refine q_bvConv (j := .u64) (k := .u8) y rfl rfl rfl in81 in5 ?_
    refine l_buildSlice (M := M) (e := 5) (cs := [.int .u8 ((y.setWidth 8).toNat : Int)]) Keep.any (hM.on z9) rfl rfl (fun _ => by kernel_rfl) (fun k_15 w3 s3 fk_15 nk_15 => ?_)
    have e0_3 : Evo M w w3 := e0_2.trans s3.no
    have z3 : Evo No w w3 := z9.trans s3.no
    have O_16 := O9.no s3
    refine l_append (k := 1) (news := [[.int .u8 ((y.setWidth 8).toNat : Int)]]) Keep.any rfl rfl rfl ap49 O_16 (Src.of un49 (Sl.ofBlk (k := 1) (rows := [[.int .u8 ((y.setWidth 8).toNat : Int)]]) (fk_15.now (Evo.refl M _)) rfl (by simp) rfl)) (Sl.ofBlk (k := 1) (rows := [[.int .u8 ((y.setWidth 8).toNat : Int)]]) (fk_15.now (Evo.refl M _)) rfl (by simp) rfl).len (Sl.ofBlk (k := 1) (rows := [[.int .u8 ((y.setWidth 8).toNat : Int)]]) (fk_15.now (Evo.refl M _)) rfl (by simp) rfl).shape (by omega) (by decide) (fun am_17 cm_17 w4 s4 Om_17 fm_17 nm_17 => ?_)
    have lom_17_0 := own_lo fm_17 lo9 e0_3.size
    have lom_17_w := own_lo fm_17 lo9 z3.size
    have e0_4 : Evo M w w4 := Evo.own e0_3 s4 lo9
    have z4 : Evo No w w4 := Evo.own z3 s4 lo9
    refine q_assign (v := .slice am_17 (n9 + 1) cm_17) rfl rfl ?_
    refine done ?_
    refine thenN ?_
    refine wp_ret ?_
    refine ret1v (.slice am_17 (n9 + 1) cm_17) rfl rfl ?_
    have hq9 : q ++ [(⟨y.setWidth 8⟩ : UInt8)] = bs ++ putN x.toNat := by rw [← hq, putN_lo (n := y.toNat) (by omega), byte_of]
    have O8 := Om_17
    exact ⟨z4, _, _, _, rfl, by rw [← hq9, List.map_append]; exact O8, lom_17_w⟩

theorem halves_c {M : Nat → Prop} (w : World) (hM : Old M w) :
    Calls Tryd.prog 113 (List.toArray []) w (Ret No w fun v _ => v = .agg (List.toArray (bk .u32 tabI))) := by
  refine enter (n := 24) [] Tryd.func113 rfl (by kernel_rfl) ?_
  refine seq ?_
  refine region [false] ?_
  refine l_alloc (M := M) Keep.any hM rfl ze156 (fun k_1 w1 s1 ck_1 nk_1 ok_1 => ?_)
  have lk_1_0 : w.heap.size ≤ k_1 := Nat.le_trans (Evo.refl M _).size nk_1
  have lk_1_w : w.heap.size ≤ k_1 := nk_1
  have e0_1 : Evo M w w1 := s1.no
  have z1 : Evo No w w1 := s1.no
  have hlk_1 := ck_1.lt
  refine done ?_
  refine thenN ?_
  refine seq ?_
  refine region [false] ?_
  refine l_alloc (M := M) Keep.any (hM.on z1) rfl ze156 (fun k_2 w2 s2 ck_2 nk_2 ok_2 => ?_)
  have lk_2_0 : w.heap.size ≤ k_2 := Nat.le_trans e0_1.size nk_2
  have lk_2_w : w.heap.size ≤ k_2 := Nat.le_trans z1.size nk_2
  have hlk_1_k_2 := ck_1.lt
  have e0_2 : Evo M w w2 := e0_1.trans s2.no
  have z2 : Evo No w w2 := z1.trans s2.no
  have c_3 := ck_1.no s2
  have hlk_2 := ck_2.lt
  refine done ?_
  refine thenN ?_
  refine seq ?_
  refine seq ?_
  refine region [true] ?_
  refine q_move (v := .int .i64 0) rfl rfl ?_
  refine done ?_
  refine thenN ?_
  refine blk ?_
  refine loopN [5, 6, 2, 7, 8, 3, 9, 10, 11, 12, 13, 14, 15, 16, 17, 18, 19, 20, 21, 22, 4] (fun k9 R9 wJ => ∃ (i : Nat), R9 = [(4, .int .i64 (i : Int))] ∧ (i ≤ 16) ∧ (Blk k_1 [.int .u32 0, .int .u32 0, .int .u32 0, .int .u32 0, .int .u32 0, .int .u32 0, .int .u32 0, .int .u32 0, .int .u32 0, .int .u32 0, .int .u32 0, .int .u32 0, .int .u32 0, .int .u32 0, .int .u32 0, .int .u32 0] 156 wJ) ∧ (Blk k_2 (bk .u32 (tabI.take i ++ List.replicate (16 - i) 0)) 156 wJ) ∧ (Evo No w wJ) ∧ k9 = 16 - i) ⟨_, _, ⟨0, rfl, Nat.zero_le _, c_3, (by rw [List.take_zero, List.nil_append]; exact ck_2), z2, rfl⟩, ⟨(by kernel_rfl), trivial⟩⟩ (fun k9 R9 u_4 w3 J_5 => ?_)
  obtain ⟨i, rfl, hi, c0, c1, z9, rfl⟩ := J_5
  have e0_3 : Evo M w w3 := z9.no
  have hxl : (tabI.take i ++ List.replicate (16 - i) 0).length = 16 := by rw [List.length_append, List.length_take, tabI_len, List.length_replicate]; omega
  refine seq ?_
  refine region [true] ?_
  refine q_lss rfl rfl rfl ?_
  refine done ?_
  refine thenN ?_
  refine seq ?_
  refine cond_b rfl (fun h_6 => ?_) (fun h_6 => ?_)
  · skip
    have h_6p := of_decide_eq_true h_6
    refine wp_skip ?_
    refine thenN ?_
    refine seq ?_
    refine blk ?_
    refine seq ?_
    refine region [true, true] ?_
    refine q_move (v := .int .i64 (i : Int)) rfl rfl ?_
    refine q_assign (v := .int .i64 (i : Int)) rfl rfl ?_
    refine done ?_
    refine thenN ?_
    refine seq ?_
    refine region [true, true, true] ?_
    refine q_move (v := .int .i64 (i : Int)) rfl rfl ?_
    refine q_bvOf (k := .u32) (i : Int) rfl rfl rfl in3 in44 ?_
    refine q_assign (v := .int .u32 ((BitVec.ofInt 32 (i : Int)).toNat : Int)) rfl rfl ?_
    refine done ?_
    refine thenN ?_
    refine seq ?_
    refine seq ?_
    refine region [true] ?_
    refine q_move (v := .int .i64 0) rfl rfl ?_
    refine done ?_
    refine thenN ?_
    refine blk ?_
    refine loopN [10, 11, 12, 13, 14, 15, 16, 17, 3, 18, 9] (fun k9 R9 wJ => ∃ (j : Nat), ∃ (y : BitVec 32), R9 = [(3, .int .u32 (y.toNat : Int)), (9, .int .i64 (j : Int))] ∧ (j ≤ 4) ∧ (halfOf (4 - j) y = halfOf 4 (BitVec.ofInt 32 (i : Int))) ∧ (Evo No w3 wJ) ∧ (Evo No w wJ) ∧ (Blk k_1 [.int .u32 0, .int .u32 0, .int .u32 0, .int .u32 0, .int .u32 0, .int .u32 0, .int .u32 0, .int .u32 0, .int .u32 0, .int .u32 0, .int .u32 0, .int .u32 0, .int .u32 0, .int .u32 0, .int .u32 0, .int .u32 0] 156 wJ) ∧ (Blk k_2 (bk .u32 (tabI.take i ++ List.replicate (16 - i) 0)) 156 wJ) ∧ k9 = 4 - j) ⟨_, _, ⟨0, _, rfl, Nat.zero_le _, rfl, Evo.refl _ _, z9, c0, c1, rfl⟩, ⟨(by kernel_rfl), (by kernel_rfl), trivial⟩⟩ (fun k9 R9 u_7 w4 J_8 => ?_)
    obtain ⟨j, y, rfl, hj, hh, x9j, z9j, m9j_k_1, m9j_k_2, rfl⟩ := J_8
    have e0_4 : Evo M w w4 := e0_3.trans x9j.no
    have exj_4 : Evo M w3 w4 := x9j.no
    have enj_4 : Evo No w3 w4 := x9j
    refine seq ?_
    refine region [true] ?_
    refine q_lss rfl rfl rfl ?_
    refine done ?_
    refine thenN ?_
    refine seq ?_
    refine cond_b rfl (fun h_9 => ?_) (fun h_9 => ?_)
    · skip
      have h_9p := of_decide_eq_true h_9
      refine wp_skip ?_
      refine thenN ?_
      refine seq ?_
      refine blk ?_
      refine region [true, true, true, true, true, true, true, true] ?_
      refine q_move (v := .int .u32 (y.toNat : Int)) rfl rfl ?_
      refine q_bvShr (k := .u32) rfl y 1 (by decide) rfl rfl rfl ?_
      refine q_move (v := .int .u32 (y.toNat : Int)) rfl rfl ?_
      refine q_bvAnd (k := .u32) rfl y (1#32) rfl rfl rfl ?_
      refine q_bvNeg (k := .u32) rfl (y &&& (1#32)) rfl rfl ?_
      refine q_bvAnd (k := .u32) rfl (-(y &&& (1#32))) (2197175160#32) rfl rfl rfl ?_
      refine q_bvXor (k := .u32) rfl (y >>> 1) ((-(y &&& (1#32))) &&& (2197175160#32)) rfl rfl rfl ?_
      refine q_assign (v := .int .u32 (((y >>> 1) ^^^ ((-(y &&& (1#32))) &&& (2197175160#32))).toNat : Int)) rfl rfl ?_
      refine done ?_
      refine blkN ?_
      refine thenN ?_
      refine region [true, true] ?_
      refine q_add rfl rfl rfl (wi64 (by omega) (by omega)) ?_
      refine q_move (v := .int .i64 ((j : Int) + 1)) rfl rfl ?_
      refine done ?_
      refine thenN ?_
      refine ⟨_, _, ?_, ⟨j + 1, halfStep y, rfl, by omega, (by rw [← hh, show 4 - j = (4 - (j + 1)) + 1 from by omega]; rfl), enj_4, z9j, m9j_k_1, m9j_k_2, rfl⟩, Env.near_at 24 (by kernel_rfl) (by kernel_rfl) ⟨(by kernel_rfl), (Eq.trans (b := Go.Value.int .i64 ((j : Int) + 1)) (by kernel_rfl) (nextI j)), trivial⟩⟩
      omega
    · skip
      have h_9p := of_decide_eq_false h_9
      refine wp_exit ?_
      refine thenX ?_
      refine thenX ?_
      refine blkX ?_
      refine thenN ?_
      refine region [true, true, true, false] ?_
      refine q_move (v := .int .i64 (i : Int)) rfl rfl ?_
      refine q_move (v := .int .u32 (y.toNat : Int)) rfl rfl ?_
      have hh9 : y = halfOf 4 (BitVec.ofNat 32 i) := by rw [← BitVec.ofInt_natCast, ← hh, show 4 - j = 0 from by omega]; rfl
      obtain ⟨y_10, hy_10⟩ := get_lt (xs := (tabI.take i ++ List.replicate (16 - i) 0)) (i := ((i : Int)).toNat) (by omega)
      refine q_indexArr rfl rfl rfl ar156 (by omega) (by omega) ?_
      refine l_storeI Keep.any rfl rfl m9j_k_2 rfl sz44 (by omega) (fun w5 s5 c_11 => ?_)
      have e0_5 : Evo M w w5 := e0_4.fresh s5 lk_2_0
      have z5 : Evo No w w5 := z9j.fresh s5 lk_2_w
      have c_12 := m9j_k_1.on s5 (by first | omega | (intro h0; subst h0; omega))
      refine done ?_
      refine blkN ?_
      refine thenN ?_
      refine region [true, true] ?_
      refine q_add rfl rfl rfl (wi64 (by omega) (by omega)) ?_
      refine q_move (v := .int .i64 ((i : Int) + 1)) rfl rfl ?_
      refine done ?_
      refine thenN ?_
      refine ⟨_, _, ?_, ⟨i + 1, rfl, by omega, c_12, (by rw [← tab_snoc (by omega), ← hh9, ← show ((i : Int)).toNat = i from rfl]; exact c_11), z5, rfl⟩, Env.near_at 48 (by kernel_rfl) (by kernel_rfl) ⟨(Eq.trans (b := Go.Value.int .i64 ((i : Int) + 1)) (by kernel_rfl) (nextI i)), trivial⟩⟩
      omega
  · skip
    have h_6p := of_decide_eq_false h_6
    refine wp_exit ?_
    refine thenX ?_
    refine thenX ?_
    refine blkX ?_
    refine thenN ?_
    refine seq ?_
    refine region [false, false] ?_
    refine l_loadArr trivial rfl rfl ag156 (by omega) c1 ?_
    refine l_storeArr Keep.any rfl rfl c0 rfl sz156 (by omega) (by rfl) (fun w4 s4 c_13 => ?_)
    have e0_4 : Evo M w w4 := e0_3.fresh s4 lk_1_0
    have z4 : Evo No w w4 := z9.fresh s4 lk_1_w
    have c_14 := c1.on s4 (by first | omega | (intro h0; subst h0; omega))
    refine done ?_
    refine thenN ?_
    refine wp_ret ?_
    refine retCell (Q := fun _ _ _ => True) rfl rfl ag156 c_13 (by rw [bk_len]; omega) ?_
    exact ⟨z4, by rw [show i = 16 from by omega, List.take_of_length_le (by rw [tabI_len]; omega)]; simp⟩

theorem more_c {M : Nat → Prop} (w : World) (hM : Old M w) (s : BitVec 32) (bs : List UInt8) (a : Option Addr) (n c : Nat) (h : At M w (Sl 1 (bs.map encB) a n c)) (hn : n ≤ 2147483648) :
    Calls Tryd.prog 92 (List.toArray [.int .u32 (s.toNat : Int), .slice a n c]) w (Ret No w fun v _ => v = .int .u32 ((moreM s bs).toNat : Int)) := by
  refine enter (n := 38) [(0, .int .u32 (s.toNat : Int)), (1, .slice a n c)] Tryd.func92 rfl (by kernel_rfl) ?_
  refine seq ?_
  refine region [true] ?_
  refine q_assign (v := .int .u32 0) rfl rfl ?_
  refine done ?_
  refine thenN ?_
  refine seq ?_
  refine region [false, false, false] ?_
  refine l_call Keep.any rfl (halves_c (M := M) w hM) en113 rfl rfl (fun v_1 w1 s1 q_2 => ?_)
  have e0_1 : Evo M w w1 := s1.no
  have z1 : Evo No w w1 := s1.no
  obtain rfl := q_2
  refine l_alloc (M := M) Keep.any (hM.on z1) rfl ze156 (fun k_3 w2 s2 ck_3 nk_3 ok_3 => ?_)
  have lk_3_0 : w.heap.size ≤ k_3 := Nat.le_trans e0_1.size nk_3
  have lk_3_w : w.heap.size ≤ k_3 := Nat.le_trans z1.size nk_3
  have e0_2 : Evo M w w2 := e0_1.trans s2.no
  have z2 : Evo No w w2 := z1.trans s2.no
  have hlk_3 := ck_3.lt
  refine l_storeArr Keep.any rfl rfl ck_3 rfl sz156 (by exact tabI_len) (by rfl) (fun w3 s3 c_4 => ?_)
  have e0_3 : Evo M w w3 := e0_2.fresh s3 lk_3_0
  have z3 : Evo No w w3 := z2.fresh s3 lk_3_w
  refine done ?_
  refine thenN ?_
  refine seq ?_
  refine region [true, true, true] ?_
  refine q_move (v := .int .u32 (s.toNat : Int)) rfl rfl ?_
  refine q_bvNot (k := .u32) rfl s rfl rfl ?_
  refine q_assign (v := .int .u32 ((~~~s).toNat : Int)) rfl rfl ?_
  refine done ?_
  refine thenN ?_
  refine seq ?_
  refine seq ?_
  refine region [true, true, true] ?_
  refine q_move (v := .slice a n c) rfl rfl ?_
  refine q_len rfl rfl el49 ?_
  refine q_move (v := .int .i64 0) rfl rfl ?_
  refine done ?_
  refine thenN ?_
  refine blk ?_
  refine loopN [14, 15, 16, 7, 17, 18, 19, 20, 0, 21, 22, 23, 24, 25, 26, 27, 28, 29, 30, 31, 32, 33, 34, 35, 13] (fun k9 R9 wJ => ∃ (j : Nat), ∃ (y : BitVec 32), R9 = [(0, .int .u32 (y.toNat : Int)), (13, .int .i64 (j : Int))] ∧ (j ≤ n) ∧ ((bs.drop j).foldl crcStep y = bs.foldl crcStep (~~~ s)) ∧ (Evo No w3 wJ) ∧ (Evo No w wJ) ∧ (Blk k_3 (bk .u32 tabI) 156 wJ) ∧ k9 = n - j) ⟨_, _, ⟨0, ~~~ s, rfl, Nat.zero_le _, rfl, Evo.refl _ _, z3, c_4, rfl⟩, ⟨(by kernel_rfl), (by kernel_rfl), trivial⟩⟩ (fun k9 R9 u_5 w4 J_6 => ?_)
  obtain ⟨j, y, rfl, hj, hq, x9j, z9j, m9j_k_3, rfl⟩ := J_6
  have e0_4 : Evo M w w4 := e0_3.trans x9j.no
  have exj_4 : Evo M w3 w4 := x9j.no
  have enj_4 : Evo No w3 w4 := x9j
  refine seq ?_
  refine region [true] ?_
  refine q_lss rfl rfl rfl ?_
  refine done ?_
  refine thenN ?_
  refine seq ?_
  refine cond_b rfl (fun h_7 => ?_) (fun h_7 => ?_)
  · skip
    have h_7p := of_decide_eq_true h_7
    refine wp_skip ?_
    refine thenN ?_
    refine seq ?_
    refine blk ?_
    refine seq ?_
    refine region [true, false, true] ?_
    obtain ⟨x_8, hx_8⟩ := Sl.get (xs := bs) h.here (i := (j : Int)) (by omega) (by omega)
    have Ax_8 := Sl.areaAt h (Sl.map_get hx_8)
    refine q_indexS' rfl rfl rfl el49 (h.here.there (by omega)).1 (by omega) (by omega) ?_
    refine l_load trivial rfl rfl pl5 ((Ax_8.now e0_4) 0 _ rfl) ?_
    refine q_assign (v := .int .u8 (x_8.toNat : Int)) rfl rfl ?_
    refine done ?_
    refine thenN ?_
    refine seq ?_
    refine region [true, true, true, true, true] ?_
    refine q_move (v := .int .u32 (y.toNat : Int)) rfl rfl ?_
    refine q_move (v := .int .u8 (x_8.toNat : Int)) rfl rfl ?_
    refine q_bvConv (j := .u8) (k := .u32) x_8.toBitVec rfl rfl rfl in5 in44 ?_
    refine q_bvXor (k := .u32) rfl y (x_8.toBitVec.setWidth 32) rfl rfl rfl ?_
    refine q_assign (v := .int .u32 ((y ^^^ (x_8.toBitVec.setWidth 32)).toNat : Int)) rfl rfl ?_
    refine done ?_
    refine thenN ?_
    refine seq ?_
    refine region [true, true, true, true, true, false, true, true] ?_
    refine q_move (v := .int .u32 ((y ^^^ (x_8.toBitVec.setWidth 32)).toNat : Int)) rfl rfl ?_
    refine q_bvShr (k := .u32) rfl (y ^^^ (x_8.toBitVec.setWidth 32)) 4 (by decide) rfl rfl rfl ?_
    refine q_move (v := .int .u32 ((y ^^^ (x_8.toBitVec.setWidth 32)).toNat : Int)) rfl rfl ?_
    refine q_bvAnd (k := .u32) rfl (y ^^^ (x_8.toBitVec.setWidth 32)) (15#32) rfl rfl rfl ?_
    have h15 := and15 (y ^^^ (x_8.toBitVec.setWidth 32))
    obtain ⟨y_9, hy_9⟩ := get_lt (xs := tabI) (i := ((((y ^^^ (x_8.toBitVec.setWidth 32)) &&& (15#32)).toNat : Int)).toNat) (by rw [tabI_len]; omega)
    have hc9 := tab_get hy_9; subst hc9
    refine q_indexArr rfl rfl rfl ar156 (by omega) (Int.ofNat_lt.2 h15) ?_
    refine l_load trivial rfl rfl pl44 (Blk.cellI m9j_k_3 hy_9) ?_
    refine q_bvXor (k := .u32) rfl ((y ^^^ (x_8.toBitVec.setWidth 32)) >>> 4) (tabAt (y ^^^ (x_8.toBitVec.setWidth 32))) rfl rfl rfl ?_
    refine q_assign (v := .int .u32 ((((y ^^^ (x_8.toBitVec.setWidth 32)) >>> 4) ^^^ (tabAt (y ^^^ (x_8.toBitVec.setWidth 32)))).toNat : Int)) rfl rfl ?_
    refine done ?_
    refine thenN ?_
    refine region [true, true, true, true, true, false, true, true] ?_
    refine q_move (v := .int .u32 ((((y ^^^ (x_8.toBitVec.setWidth 32)) >>> 4) ^^^ (tabAt (y ^^^ (x_8.toBitVec.setWidth 32)))).toNat : Int)) rfl rfl ?_
    refine q_bvShr (k := .u32) rfl (((y ^^^ (x_8.toBitVec.setWidth 32)) >>> 4) ^^^ (tabAt (y ^^^ (x_8.toBitVec.setWidth 32)))) 4 (by decide) rfl rfl rfl ?_
    refine q_move (v := .int .u32 ((((y ^^^ (x_8.toBitVec.setWidth 32)) >>> 4) ^^^ (tabAt (y ^^^ (x_8.toBitVec.setWidth 32)))).toNat : Int)) rfl rfl ?_
    refine q_bvAnd (k := .u32) rfl (((y ^^^ (x_8.toBitVec.setWidth 32)) >>> 4) ^^^ (tabAt (y ^^^ (x_8.toBitVec.setWidth 32)))) (15#32) rfl rfl rfl ?_
    have h15 := and15 (((y ^^^ (x_8.toBitVec.setWidth 32)) >>> 4) ^^^ (tabAt (y ^^^ (x_8.toBitVec.setWidth 32))))
    obtain ⟨y_10, hy_10⟩ := get_lt (xs := tabI) (i := ((((((y ^^^ (x_8.toBitVec.setWidth 32)) >>> 4) ^^^ (tabAt (y ^^^ (x_8.toBitVec.setWidth 32)))) &&& (15#32)).toNat : Int)).toNat) (by rw [tabI_len]; omega)
    have hc9 := tab_get hy_10; subst hc9
    refine q_indexArr rfl rfl rfl ar156 (by omega) (Int.ofNat_lt.2 h15) ?_
    refine l_load trivial rfl rfl pl44 (Blk.cellI m9j_k_3 hy_10) ?_
    refine q_bvXor (k := .u32) rfl ((((y ^^^ (x_8.toBitVec.setWidth 32)) >>> 4) ^^^ (tabAt (y ^^^ (x_8.toBitVec.setWidth 32)))) >>> 4) (tabAt (((y ^^^ (x_8.toBitVec.setWidth 32)) >>> 4) ^^^ (tabAt (y ^^^ (x_8.toBitVec.setWidth 32))))) rfl rfl rfl ?_
    refine q_assign (v := .int .u32 ((((((y ^^^ (x_8.toBitVec.setWidth 32)) >>> 4) ^^^ (tabAt (y ^^^ (x_8.toBitVec.setWidth 32)))) >>> 4) ^^^ (tabAt (((y ^^^ (x_8.toBitVec.setWidth 32)) >>> 4) ^^^ (tabAt (y ^^^ (x_8.toBitVec.setWidth 32)))))).toNat : Int)) rfl rfl ?_
    refine done ?_
    refine blkN ?_
    refine thenN ?_
    refine region [true, true] ?_
    refine q_add rfl rfl rfl (wi64 (by omega) (by omega)) ?_
    refine q_move (v := .int .i64 ((j : Int) + 1)) rfl rfl ?_
    refine done ?_
    refine thenN ?_
    refine ⟨_, _, ?_, ⟨j + 1, crcStep y x_8, rfl, by omega, (by rw [← hq, drop_cons (i := j) hx_8]; rfl), enj_4, z9j, m9j_k_3, rfl⟩, Env.near_at 54 (by kernel_rfl) (by kernel_rfl) ⟨(by kernel_rfl), (Eq.trans (b := Go.Value.int .i64 ((j : Int) + 1)) (by kernel_rfl) (nextI j)), trivial⟩⟩
    omega
  · skip
    have h_7p := of_decide_eq_false h_7
    refine wp_exit ?_
    refine thenX ?_
    refine thenX ?_
    refine blkX ?_
    refine thenN ?_
    refine seq ?_
    refine region [true, true, true] ?_
    refine q_move (v := .int .u32 (y.toNat : Int)) rfl rfl ?_
    refine q_bvNot (k := .u32) rfl y rfl rfl ?_
    refine q_assign (v := .int .u32 ((~~~y).toNat : Int)) rfl rfl ?_
    refine done ?_
    refine thenN ?_
    refine wp_ret ?_
    refine ret1v (.int .u32 ((~~~y).toNat : Int)) rfl rfl ?_
    have hl := h.here.len; rw [List.length_map] at hl
    exact ⟨z9j, by unfold moreM; rw [← hq, List.drop_eq_nil_of_le (by omega)]; rfl⟩

theorem of_c {M : Nat → Prop} (w : World) (hM : Old M w) (ps : List Part) (a : Option Addr) (n c : Nat) (h : At M w (Sl 1 (ps.map encPart) a n c)) (hn : n ≤ 2147483648) (hps : ∀ p ∈ ps, At M w (Sl 1 (p.1.map encB) p.2.1 p.2.2.1 p.2.2.2) ∧ p.2.2.1 ≤ 2147483648) :
    Calls Tryd.prog 64 (List.toArray [.slice a n c]) w (Ret No w fun v _ => v = .int .u32 ((ofM (ps.map (·.1))).toNat : Int)) := by
  refine enter (n := 17) [(0, .slice a n c)] Tryd.func64 rfl (by kernel_rfl) ?_
  refine seq ?_
  refine region [true] ?_
  refine q_assign (v := .int .u32 0) rfl rfl ?_
  refine done ?_
  refine thenN ?_
  refine seq ?_
  refine region [true] ?_
  refine q_assign (v := .int .u32 0) rfl rfl ?_
  refine done ?_
  refine thenN ?_
  refine seq ?_
  refine seq ?_
  refine region [true, true, true] ?_
  refine q_move (v := .slice a n c) rfl rfl ?_
  refine q_len rfl rfl el138 ?_
  refine q_move (v := .int .i64 0) rfl rfl ?_
  refine done ?_
  refine thenN ?_
  refine blk ?_
  refine loopN [9, 10, 11, 5, 12, 13, 14, 3, 15, 8] (fun k9 R9 wJ => ∃ (j : Nat), ∃ (y : BitVec 32), R9 = [(3, .int .u32 (y.toNat : Int)), (8, .int .i64 (j : Int))] ∧ (j ≤ n) ∧ (((ps.drop j).map (·.1)).foldl moreM y = ofM (ps.map (·.1))) ∧ (Evo No w wJ) ∧ (Evo No w wJ) ∧ k9 = n - j) ⟨_, _, ⟨0, 0, rfl, Nat.zero_le _, rfl, Evo.refl _ _, Evo.refl _ _, rfl⟩, ⟨(by kernel_rfl), (by kernel_rfl), trivial⟩⟩ (fun k9 R9 u_1 w1 J_2 => ?_)
  obtain ⟨j, y, rfl, hj, hq, x9j, z9j, rfl⟩ := J_2
  have e0_1 : Evo M w w1 := x9j.no
  have exj_1 : Evo M w w1 := x9j.no
  have enj_1 : Evo No w w1 := x9j
  refine seq ?_
  refine region [true] ?_
  refine q_lss rfl rfl rfl ?_
  refine done ?_
  refine thenN ?_
  refine seq ?_
  refine cond_b rfl (fun h_3 => ?_) (fun h_3 => ?_)
  · skip
    have h_3p := of_decide_eq_true h_3
    refine wp_skip ?_
    refine thenN ?_
    refine seq ?_
    refine blk ?_
    refine seq ?_
    refine region [true, false, true] ?_
    obtain ⟨x_4, hx_4⟩ := Sl.get (xs := ps) h.here (i := (j : Int)) (by omega) (by omega)
    have Ax_4 := Sl.areaAt h (Sl.map_get hx_4)
    refine q_indexS' rfl rfl rfl el138 (h.here.there (by omega)).1 (by omega) (by omega) ?_
    obtain ⟨hp9, hl9⟩ := hps x_4 (List.mem_of_getElem? hx_4)
    refine l_load trivial rfl rfl pl49 ((Ax_4.now e0_1) 0 _ rfl) ?_
    refine q_assign (v := .slice x_4.2.1 x_4.2.2.1 x_4.2.2.2) rfl rfl ?_
    refine done ?_
    refine thenN ?_
    refine region [true, true, false, true] ?_
    refine q_move (v := .int .u32 (y.toNat : Int)) rfl rfl ?_
    refine q_move (v := .slice x_4.2.1 x_4.2.2.1 x_4.2.2.2) rfl rfl ?_
    refine l_call Keep.any rfl (more_c (M := M) w1 (hM.on z9j) y x_4.1 _ _ _ (hp9.on e0_1) (by omega)) en92 rfl rfl (fun v_5 w2 s2 q_6 => ?_)
    have e0_2 : Evo M w w2 := e0_1.trans s2.no
    have exj_2 : Evo M w w2 := exj_1.trans s2.no
    have enj_2 : Evo No w w2 := enj_1.trans s2.no
    have z2 : Evo No w w2 := z9j.trans s2.no
    obtain rfl := q_6
    refine q_assign (v := .int .u32 ((moreM y x_4.1).toNat : Int)) rfl rfl ?_
    refine done ?_
    refine blkN ?_
    refine thenN ?_
    refine region [true, true] ?_
    refine q_add rfl rfl rfl (wi64 (by omega) (by omega)) ?_
    refine q_move (v := .int .i64 ((j : Int) + 1)) rfl rfl ?_
    refine done ?_
    refine thenN ?_
    refine ⟨_, _, ?_, ⟨j + 1, moreM y x_4.1, rfl, by omega, (by rw [← hq, drop_cons (i := j) hx_4]; rfl), enj_2, z2, rfl⟩, Env.near_at 22 (by kernel_rfl) (by kernel_rfl) ⟨(by kernel_rfl), (Eq.trans (b := Go.Value.int .i64 ((j : Int) + 1)) (by kernel_rfl) (nextI j)), trivial⟩⟩
    omega
  · skip
    have h_3p := of_decide_eq_false h_3
    refine wp_exit ?_
    refine thenX ?_
    refine thenX ?_
    refine blkX ?_
    refine thenN ?_
    refine seq ?_
    refine region [true, true] ?_
    refine q_move (v := .int .u32 (y.toNat : Int)) rfl rfl ?_
    refine q_assign (v := .int .u32 (y.toNat : Int)) rfl rfl ?_
    refine done ?_
    refine thenN ?_
    refine wp_ret ?_
    refine ret1v (.int .u32 (y.toNat : Int)) rfl rfl ?_
    have hl := h.here.len; rw [List.length_map] at hl
    exact ⟨z9j, by rw [← hq, List.drop_eq_nil_of_le (by omega)]; rfl⟩

theorem seal_c {M : Nat → Prop} (w : World) (hM : Old M w) (bs : List UInt8) (a : Option Addr) (n c : Nat) (h : At M w (Sl 1 (bs.map encB) a n c)) (hn : n ≤ 1073741824) :
    Calls Tryd.prog 40 (List.toArray [.slice a n c]) w (Ret No w fun v w9 => ∃ a9 n9 c9, v = .slice a9 n9 c9 ∧ Own 1 5 ((sealM bs).map encB) a9 n9 c9 w9 ∧ ∀ b, OwnB a9 b → w.heap.size ≤ b) := by
  refine enter (n := 22) [(0, .slice a n c)] Tryd.func40 rfl (by kernel_rfl) ?_
  refine seq ?_
  refine region [true] ?_
  refine q_assign (v := .slice none 0 0) rfl rfl ?_
  refine done ?_
  refine thenN ?_
  refine seq ?_
  refine region [true, false, false, true] ?_
  refine q_move (v := .slice a n c) rfl rfl ?_
  refine l_buildSlice (M := M) (e := 49) (cs := [.slice a n c]) Keep.any hM rfl rfl (fun _ => by kernel_rfl) (fun k_1 w1 s1 fk_1 nk_1 => ?_)
  have e0_1 : Evo M w w1 := s1.no
  have z1 : Evo No w w1 := s1.no
  have hP := fk_1.imp fun w9 _ h9 => Sl.ofBlk (k := 1) (rows := [((bs, a, n, c) : Part)].map encPart) h9 rfl (by simp [encPart]) rfl
  refine l_call Keep.any rfl (of_c (M := M) w1 (hM.on z1) [(bs, a, n, c)] _ _ _ (hP.on (Evo.refl M _)) (by simp) (fun p hp => by rw [List.mem_singleton] at hp; subst hp; exact ⟨(h.on e0_1), (show n ≤ 2147483648 by omega)⟩)) en64 rfl rfl (fun v_2 w2 s2 q_3 => ?_)
  have e0_2 : Evo M w w2 := e0_1.trans s2.no
  have e1_2 : Evo M w1 w2 := s2.no
  have z2 : Evo No w w2 := z1.trans s2.no
  obtain rfl := q_3
  refine q_assign (v := .int .u32 ((sumM bs).toNat : Int)) rfl rfl ?_
  refine done ?_
  refine thenN ?_
  refine seq ?_
  refine region [true, false, true, true, true, true, true, true, true, true, true, true, true, false, false, true] ?_
  refine q_move (v := .slice a n c) rfl rfl ?_
  refine l_call Keep.any rfl (cloneBytesO_c (M := M) w2 (hM.on z2) (bs.map encB) a n c (h.on e0_2) (by omega)) en59 rfl rfl (fun v_8 w3 s3 q_9 => ?_)
  have e0_3 : Evo M w w3 := e0_2.trans s3.no
  have e1_3 : Evo M w1 w3 := e1_2.trans s3.no
  have z3 : Evo No w w3 := z2.trans s3.no
  obtain ⟨a_4, c_5, rfl, O_6, lo_7⟩ := q_9
  have lo_10 := own_up lo_7 e0_2.size
  have lo_11 := own_up lo_7 e1_2.size
  have lo_12 : ∀ b, OwnB a_4 b → w.heap.size ≤ b := own_up lo_7 z2.size
  refine q_move (v := .int .u32 ((sumM bs).toNat : Int)) rfl rfl ?_
  refine q_bvConv (j := .u32) (k := .u8) (sumM bs) rfl rfl rfl in44 in5 ?_
  refine q_move (v := .int .u32 ((sumM bs).toNat : Int)) rfl rfl ?_
  refine q_bvShr (k := .u32) rfl (sumM bs) 8 (by decide) rfl rfl rfl ?_
  refine q_bvConv (j := .u32) (k := .u8) ((sumM bs) >>> 8) rfl rfl rfl in44 in5 ?_
  refine q_move (v := .int .u32 ((sumM bs).toNat : Int)) rfl rfl ?_
  refine q_bvShr (k := .u32) rfl (sumM bs) 16 (by decide) rfl rfl rfl ?_
  refine q_bvConv (j := .u32) (k := .u8) ((sumM bs) >>> 16) rfl rfl rfl in44 in5 ?_
  refine q_move (v := .int .u32 ((sumM bs).toNat : Int)) rfl rfl ?_
  refine q_bvShr (k := .u32) rfl (sumM bs) 24 (by decide) rfl rfl rfl ?_
  refine q_bvConv (j := .u32) (k := .u8) ((sumM bs) >>> 24) rfl rfl rfl in44 in5 ?_
  refine l_buildSlice (M := M) (e := 5) (cs := [.int .u8 (((sumM bs).setWidth 8).toNat : Int), .int .u8 ((((sumM bs) >>> 8).setWidth 8).toNat : Int), .int .u8 ((((sumM bs) >>> 16).setWidth 8).toNat : Int), .int .u8 ((((sumM bs) >>> 24).setWidth 8).toNat : Int)]) Keep.any (hM.on z3) rfl rfl (fun _ => by kernel_rfl) (fun k_13 w4 s4 fk_13 nk_13 => ?_)
  have e0_4 : Evo M w w4 := e0_3.trans s4.no
  have e1_4 : Evo M w1 w4 := e1_3.trans s4.no
  have z4 : Evo No w w4 := z3.trans s4.no
  have O_14 := O_6.no s4
  refine l_append (k := 1) (news := [[.int .u8 (((sumM bs).setWidth 8).toNat : Int)], [.int .u8 ((((sumM bs) >>> 8).setWidth 8).toNat : Int)], [.int .u8 ((((sumM bs) >>> 16).setWidth 8).toNat : Int)], [.int .u8 ((((sumM bs) >>> 24).setWidth 8).toNat : Int)]]) Keep.any rfl rfl rfl ap49 O_14 (Src.of un49 (Sl.ofBlk (k := 1) (rows := [[.int .u8 (((sumM bs).setWidth 8).toNat : Int)], [.int .u8 ((((sumM bs) >>> 8).setWidth 8).toNat : Int)], [.int .u8 ((((sumM bs) >>> 16).setWidth 8).toNat : Int)], [.int .u8 ((((sumM bs) >>> 24).setWidth 8).toNat : Int)]]) (fk_13.now (Evo.refl M _)) rfl (by simp) rfl)) (Sl.ofBlk (k := 1) (rows := [[.int .u8 (((sumM bs).setWidth 8).toNat : Int)], [.int .u8 ((((sumM bs) >>> 8).setWidth 8).toNat : Int)], [.int .u8 ((((sumM bs) >>> 16).setWidth 8).toNat : Int)], [.int .u8 ((((sumM bs) >>> 24).setWidth 8).toNat : Int)]]) (fk_13.now (Evo.refl M _)) rfl (by simp) rfl).len (Sl.ofBlk (k := 1) (rows := [[.int .u8 (((sumM bs).setWidth 8).toNat : Int)], [.int .u8 ((((sumM bs) >>> 8).setWidth 8).toNat : Int)], [.int .u8 ((((sumM bs) >>> 16).setWidth 8).toNat : Int)], [.int .u8 ((((sumM bs) >>> 24).setWidth 8).toNat : Int)]]) (fk_13.now (Evo.refl M _)) rfl (by simp) rfl).shape (by omega) (by decide) (fun am_15 cm_15 w5 s5 Om_15 fm_15 nm_15 => ?_)
  have lom_15_0 := own_lo fm_15 lo_10 e0_4.size
  have lom_15_1 := own_lo fm_15 lo_11 e1_4.size
  have lom_15_w := own_lo fm_15 lo_12 z4.size
  have e0_5 : Evo M w w5 := Evo.own e0_4 s5 lo_10
  have e1_5 : Evo M w1 w5 := Evo.own e1_4 s5 lo_11
  have z5 : Evo No w w5 := Evo.own z4 s5 lo_12
  refine q_assign (v := .slice am_15 (n + 4) cm_15) rfl rfl ?_
  refine done ?_
  refine thenN ?_
  refine wp_ret ?_
  refine ret1v (.slice am_15 (n + 4) cm_15) rfl rfl ?_
  have O8 := Om_15
  exact ⟨z5, _, _, _, rfl, by unfold sealM; rw [List.map_append]; exact O8, lom_15_w⟩
end Go.Proofs.YtnkafkikjcgogaaDoor
