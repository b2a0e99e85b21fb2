import Derived.Test.YtnkafkikjcgogaaDoorSye
import Derived.Test.YtnkafkikjcgogaaDoorProg
import Derived.Test.YtnkafkikjcgogaaDoorSrt
/- Closed facts on the translation. -/
set_option maxRecDepth 100000
set_option linter.unusedVariables false
set_option linter.unusedSimpArgs false
namespace Go.Proofs.YtnkafkikjcgogaaDoor.FS
open Go.Sy
theorem mixed : Tryd.prog.follows .mixedOrders = true := by kernel_rfl
theorem el22 : elemB Tryd.prog 22 = some (3, 1) := by kernel_rfl
theorem en30 : entB Tryd.prog 30 = true := by kernel_rfl
theorem en31 : entB Tryd.prog 31 = true := by kernel_rfl
theorem en57 : entB Tryd.prog 57 = true := by kernel_rfl
theorem fl31_0 : fldB Tryd.prog 31 0 = some 0 := by kernel_rfl
theorem fl31_1 : fldB Tryd.prog 31 1 = some 1 := by kernel_rfl
theorem pl2 : plainB Tryd.prog 2 = true := by kernel_rfl
theorem pl3 : plainB Tryd.prog 3 = true := by kernel_rfl
end Go.Proofs.YtnkafkikjcgogaaDoor.FS

set_option linter.unusedVariables false
set_option linter.unusedSimpArgs false
set_option maxRecDepth 4000
set_option maxHeartbeats 2000000
namespace Go.Proofs.YtnkafkikjcgogaaDoor
open Go.Sy FS

theorem nan64_c (w : World) {M : Nat → Prop} (a : Int) :
    Calls Tryd.prog 57 (List.toArray [.int .i64 a]) w (Ret No w fun v _ => v = .bool false) := by
  refine enter (n := 6) [(0, .int .i64 a)] Tryd.func57 rfl (by kernel_rfl) ?_
  refine seq ?_
  refine region [true] ?_
  refine q_assign (v := .bool false) rfl rfl ?_
  refine done ?_
  refine thenN ?_
  refine seq ?_
  refine region [true, true, true, true] ?_
  refine q_move (v := .int .i64 a) rfl rfl ?_
  refine q_move (v := .int .i64 a) rfl rfl ?_
  refine q_neq rfl rfl rfl ?_
  refine q_assign (v := .bool (!(decide (a = a)))) rfl rfl ?_
  refine done ?_
  refine thenN ?_
  refine wp_ret ?_
  refine ret1v (.bool (!(decide (a = a)))) rfl rfl ?_
  exact ⟨Evo.refl _ _, by simp⟩

theorem cmp64_c (w : World) {M : Nat → Prop} (a b : Int) :
    Calls Tryd.prog 31 (List.toArray [.int .i64 a, .int .i64 b]) w (Ret No w fun v _ => v = .int .i64 (cmpI a b)) := by
  refine enter (n := 20) [(0, .int .i64 a), (1, .int .i64 b)] Tryd.func31 rfl (by kernel_rfl) ?_
  refine seq ?_
  refine region [true] ?_
  refine q_assign (v := .int .i64 0) rfl rfl ?_
  refine done ?_
  refine thenN ?_
  refine seq ?_
  refine region [true, false, true] ?_
  refine q_move (v := .int .i64 a) rfl rfl ?_
  refine l_call Keep.any rfl (nan64_c w (M := No) a) en57 rfl rfl (fun v_1 w1 s1 q_2 => ?_)
  have e0_1 : Evo M w w1 := s1.no
  have z1 : Evo No w w1 := s1.no
  obtain rfl := q_2
  refine q_assign (v := .bool false) rfl rfl ?_
  refine done ?_
  refine thenN ?_
  refine seq ?_
  refine region [true, false, true] ?_
  refine q_move (v := .int .i64 b) rfl rfl ?_
  refine l_call Keep.any rfl (nan64_c w1 (M := No) b) en57 rfl rfl (fun v_3 w2 s2 q_4 => ?_)
  have e0_2 : Evo M w w2 := e0_1.trans s2.no
  have z2 : Evo No w w2 := z1.trans s2.no
  obtain rfl := q_4
  refine q_assign (v := .bool false) rfl rfl ?_
  refine done ?_
  refine thenN ?_
  refine seq ?_
  refine seq ?_
  refine region [true] ?_
  refine q_move (v := .bool false) rfl rfl ?_
  refine done ?_
  refine thenN ?_
  refine cond_f rfl ?_
  refine wp_skip ?_
  refine thenN ?_
  refine seq ?_
  refine seq ?_
  refine region [true] ?_
  refine q_move (v := .bool false) rfl rfl ?_
  refine done ?_
  refine thenN ?_
  refine cond_f rfl ?_
  refine wp_skip ?_
  refine thenN ?_
  refine seq ?_
  refine seq ?_
  refine region [true, true, true] ?_
  refine q_move (v := .int .i64 a) rfl rfl ?_
  refine q_move (v := .int .i64 b) rfl rfl ?_
  refine q_lss rfl rfl rfl ?_
  refine done ?_
  refine thenN ?_
  refine cond_b rfl (fun h_5 => ?_) (fun h_5 => ?_)
  · skip
    have h_5p := of_decide_eq_true h_5
    refine seq ?_
    refine region [true] ?_
    refine q_assign (v := .int .i64 (-1)) rfl rfl ?_
    refine done ?_
    refine thenN ?_
    refine wp_ret ?_
    refine thenR ?_
    refine ret1v (.int .i64 (-1)) rfl rfl ?_
    exact ⟨z2, by simp [cmpI, *]⟩
  · skip
    have h_5p := of_decide_eq_false h_5
    refine wp_skip ?_
    refine thenN ?_
    refine seq ?_
    refine seq ?_
    refine region [true, true, true] ?_
    refine q_move (v := .int .i64 a) rfl rfl ?_
    refine q_move (v := .int .i64 b) rfl rfl ?_
    refine q_gtr rfl rfl rfl ?_
    refine done ?_
    refine thenN ?_
    refine cond_b rfl (fun h_6 => ?_) (fun h_6 => ?_)
    · skip
      have h_6p := of_decide_eq_true h_6
      refine seq ?_
      refine region [true] ?_
      refine q_assign (v := .int .i64 1) rfl rfl ?_
      refine done ?_
      refine thenN ?_
      refine wp_ret ?_
      refine thenR ?_
      refine ret1v (.int .i64 1) rfl rfl ?_
      exact ⟨z2, by simp [cmpI, *]⟩
    · skip
      have h_6p := of_decide_eq_false h_6
      refine wp_skip ?_
      refine thenN ?_
      refine seq ?_
      refine region [true] ?_
      refine q_assign (v := .int .i64 0) rfl rfl ?_
      refine done ?_
      refine thenN ?_
      refine wp_ret ?_
      refine ret1v (.int .i64 0) rfl rfl ?_
      exact ⟨z2, by simp [cmpI, *]⟩

theorem orInts_c {M : Nat → Prop} (w : World) (xs : List Int) (a : Option Addr) (n c : Nat) (h : At M w (Sl 1 (xs.map encI) a n c)) (hn : n ≤ 2147483648) :
    Calls Tryd.prog 30 (List.toArray [.slice a n c]) w (Ret No w fun v _ => v = .int .i64 (orL xs)) := by
  refine enter (n := 18) [(0, .slice a n c)] Tryd.func30 rfl (by kernel_rfl) ?_
  have hl := h.here.len
  rw [List.length_map] at hl
  refine seq ?_
  refine region [true] ?_
  refine q_assign (v := .int .i64 0) rfl rfl ?_
  refine done ?_
  refine thenN ?_
  refine seq ?_
  refine region [true] ?_
  refine q_assign (v := .int .i64 0) rfl rfl ?_
  refine done ?_
  refine thenN ?_
  refine seq ?_
  refine seq ?_
  refine region [true, true, true] ?_
  refine q_move (v := .slice a n c) rfl rfl ?_
  refine q_len rfl rfl el22 ?_
  refine q_move (v := .int .i64 0) rfl rfl ?_
  refine done ?_
  refine thenN ?_
  refine blk ?_
  refine loopN [9, 10, 11, 5, 12, 13, 14, 15, 2, 16, 8] (fun k9 R9 wJ => ∃ (j : Nat), R9 = [(8, .int .i64 (j : Int))] ∧ (j ≤ n) ∧ (orL (xs.drop j) = orL xs) ∧ (Evo No w wJ) ∧ (Evo No w wJ) ∧ k9 = n - j) ⟨_, _, ⟨0, rfl, Nat.zero_le _, rfl, Evo.refl _ _, Evo.refl _ _, rfl⟩, ⟨(by kernel_rfl), trivial⟩⟩ (fun k9 R9 u_1 w1 J_2 => ?_)
  obtain ⟨j, rfl, hj, hq, x9j, z9j, rfl⟩ := J_2
  have e0_1 : Evo M w w1 := x9j.no
  have exj_1 : Evo M w w1 := x9j.no
  have enj_1 : Evo No w w1 := x9j
  refine seq ?_
  refine region [true] ?_
  refine q_lss rfl rfl rfl ?_
  refine done ?_
  refine thenN ?_
  refine seq ?_
  refine cond_b rfl (fun h_3 => ?_) (fun h_3 => ?_)
  · skip
    have h_3p := of_decide_eq_true h_3
    refine wp_skip ?_
    refine thenN ?_
    refine seq ?_
    refine blk ?_
    refine seq ?_
    refine region [true, false, true] ?_
    obtain ⟨x_4, hx_4⟩ := Sl.get (xs := xs) h.here (i := (j : Int)) (by omega) (by omega)
    have Ax_4 := Sl.areaAt h (Sl.map_get hx_4)
    refine q_indexS' rfl rfl rfl el22 (h.here.there (by omega)).1 (by omega) (by omega) ?_
    refine l_load trivial rfl rfl pl3 ((Ax_4.now e0_1) 0 _ rfl) ?_
    refine q_assign (v := .int .i64 x_4) rfl rfl ?_
    refine done ?_
    refine thenN ?_
    refine seq ?_
    refine region [true, true, true] ?_
    refine q_move (v := .int .i64 x_4) rfl rfl ?_
    refine q_move (v := .int .i64 0) rfl rfl ?_
    refine q_neq rfl rfl rfl ?_
    refine done ?_
    refine thenN ?_
    refine cond_b rfl (fun h_5 => ?_) (fun h_5 => ?_)
    · skip
      have h_6 := unT h_5
      have h_6p := of_decide_eq_false h_6
      refine seq ?_
      refine region [true, true] ?_
      refine q_move (v := .int .i64 x_4) rfl rfl ?_
      refine q_assign (v := .int .i64 x_4) rfl rfl ?_
      refine done ?_
      refine thenN ?_
      refine wp_ret ?_
      refine blkR ?_
      refine thenR ?_
      refine thenR ?_
      refine blkR ?_
      refine thenR ?_
      refine ret1v (.int .i64 x_4) rfl rfl ?_
      exact ⟨z9j, by rw [← hq, drop_cons (i := j) hx_4, orL, if_neg (of_decide_eq_false (unT h_5))]⟩
    · skip
      have h_7 := unF h_5
      have h_7p := of_decide_eq_true h_7
      refine wp_skip ?_
      refine blkN ?_
      refine thenN ?_
      refine region [true, true] ?_
      refine q_add rfl rfl rfl (wi64 (by omega) (by omega)) ?_
      refine q_move (v := .int .i64 ((j : Int) + 1)) rfl rfl ?_
      refine done ?_
      refine thenN ?_
      refine ⟨_, _, ?_, ⟨j + 1, rfl, by omega, by rw [← hq, drop_cons (i := j) hx_4, orL, if_pos (of_decide_eq_true (unF h_5))], enj_1, z9j, rfl⟩, Env.near_at 21 (by kernel_rfl) (by kernel_rfl) ⟨(Eq.trans (b := Go.Value.int .i64 ((j : Int) + 1)) (by kernel_rfl) (nextI j)), trivial⟩⟩
      omega
  · skip
    have h_3p := of_decide_eq_false h_3
    refine wp_exit ?_
    refine thenX ?_
    refine thenX ?_
    refine blkX ?_
    refine thenN ?_
    refine seq ?_
    refine region [true, true] ?_
    refine q_move (v := .int .i64 0) rfl rfl ?_
    refine q_assign (v := .int .i64 0) rfl rfl ?_
    refine done ?_
    refine thenN ?_
    refine wp_ret ?_
    refine ret1v (.int .i64 0) rfl rfl ?_
    exact ⟨z9j, by rw [← hq, List.drop_eq_nil_of_le (by omega)]; rfl⟩

theorem in1_c (w : World) {M : Nat → Prop} (hM : Old M w) (i1 b1 e1 t1 i2 b2 e2 t2 : Int) (a1 o1 a2 o2 : Value) (h1 : 0 ≤ i1) (h2 : i1 ≤ 2147483647) (h3 : 0 ≤ i2) (h4 : i2 ≤ 2147483647) :
    Calls Tryd.prog 29 (List.toArray [.agg (List.toArray [.int .i64 i1, .int .i64 b1, .int .i64 e1, .int .i64 t1, a1, o1]), .agg (List.toArray [.int .i64 i2, .int .i64 b2, .int .i64 e2, .int .i64 t2, a2, o2])]) w (Ret No w fun v _ => v = .int .i64 (orL [cmpI b1 b2, i1 - i2])) := by
  refine enter (n := 17) [(0, .agg (List.toArray [.int .i64 i1, .int .i64 b1, .int .i64 e1, .int .i64 t1, a1, o1])), (1, .agg (List.toArray [.int .i64 i2, .int .i64 b2, .int .i64 e2, .int .i64 t2, a2, o2]))] Tryd.func29 rfl (by kernel_rfl) ?_
  refine seq ?_
  refine region [false, false, true] ?_
  refine l_box (M := M) Keep.any hM rfl rfl (fun k_1 w1 s1 fk_1 nk_1 => ?_)
  have e0_1 : Evo M w w1 := s1.no
  have z1 : Evo No w w1 := s1.no
  refine l_box (M := M) Keep.any (hM.on z1) rfl rfl (fun k_2 w2 s2 fk_2 nk_2 => ?_)
  have e0_2 : Evo M w w2 := e0_1.trans s2.no
  have e1_2 : Evo M w1 w2 := s2.no
  have z2 : Evo No w w2 := z1.trans s2.no
  refine q_assign (v := .int .i64 0) rfl rfl ?_
  refine done ?_
  refine thenN ?_
  refine seq ?_
  refine regionD No (.q 0 (.q 1 (.q 2 (.q 3 (.q 5 (.q 6 (.q 7 (.q 8 (.q 9 (.l 4 (.l 10 (.l 11 (.q 12 (.nil)))))))))))))) mixed (by kernel_rfl) (by kernel_rfl) (by kernel_rfl) (fun w3 s3 => ?_)
  have e0_3 : Evo M w w3 := e0_2.trans s3.no
  have e1_3 : Evo M w1 w3 := e1_2.trans s3.no
  have e2_3 : Evo M w2 w3 := s3.no
  have z3 : Evo No w w3 := z2.trans s3.no
  have rgr_3_3 : Evo No w2 w3 := s3.no
  refine q_fieldAddr rfl rfl fl31_1 ?_
  refine q_loadB rfl rfl pl2 (fk_1.via e1_2 noX) rfl ?_
  refine q_fieldAddr rfl rfl fl31_1 ?_
  refine q_loadB rfl rfl pl2 (fk_2.via (Evo.refl _ _) noX) rfl ?_
  refine q_fieldAddr rfl rfl fl31_0 ?_
  refine q_loadB rfl rfl pl3 (fk_1.via e1_2 noX) rfl ?_
  refine q_fieldAddr rfl rfl fl31_0 ?_
  refine q_loadB rfl rfl pl3 (fk_2.via (Evo.refl _ _) noX) rfl ?_
  refine q_sub rfl rfl rfl (wi64 (by omega) (by omega)) ?_
  refine l_call (Keep.evo rgr_3_3 noX) rfl (cmp64_c w3 (M := No) b1 b2) en31 rfl rfl (fun v_4 w4 s4 q_5 => ?_)
  have e0_4 : Evo M w w4 := e0_3.trans s4.no
  have e1_4 : Evo M w1 w4 := e1_3.trans s4.no
  have e2_4 : Evo M w2 w4 := e2_3.trans s4.no
  have z4 : Evo No w w4 := z3.trans s4.no
  have rgr_3_4 : Evo No w2 w4 := rgr_3_3.trans s4.no
  obtain rfl := q_5
  refine l_buildSlice (M := M) (e := 3) (cs := [.int .i64 (cmpI b1 b2), .int .i64 (i1 - i2)]) (Keep.evo rgr_3_4 noX) (hM.on z4) rfl rfl (fun _ => by kernel_rfl) (fun k_6 w5 s5 fk_6 nk_6 => ?_)
  have e0_5 : Evo M w w5 := e0_4.trans s5.no
  have e1_5 : Evo M w1 w5 := e1_4.trans s5.no
  have e2_5 : Evo M w2 w5 := e2_4.trans s5.no
  have z5 : Evo No w w5 := z4.trans s5.no
  have rgr_3_5 : Evo No w2 w5 := rgr_3_4.trans s5.no
  have hPs := fk_6.imp fun w9 _ h9 => Sl.ofBlk (k := 1) (rows := [cmpI b1 b2, i1 - i2].map encI) h9 rfl (by simp [encI]) rfl
  refine l_call (Keep.evo rgr_3_5 noX) rfl (orInts_c (M := M) w5 [cmpI b1 b2, i1 - i2] _ _ _ (hPs.on (Evo.refl M _)) (by simp)) en30 rfl rfl (fun v_7 w6 s6 q_8 => ?_)
  have e0_6 : Evo M w w6 := e0_5.trans s6.no
  have e1_6 : Evo M w1 w6 := e1_5.trans s6.no
  have e2_6 : Evo M w2 w6 := e2_5.trans s6.no
  have e5_6 : Evo M w5 w6 := s6.no
  have z6 : Evo No w w6 := z5.trans s6.no
  have rgr_3_6 : Evo No w2 w6 := rgr_3_5.trans s6.no
  obtain rfl := q_8
  refine q_assign (v := .int .i64 (orL [cmpI b1 b2, i1 - i2])) rfl rfl ?_
  refine done ?_
  refine thenN ?_
  refine wp_ret ?_
  refine ret1v (.int .i64 (orL [cmpI b1 b2, i1 - i2])) rfl rfl ?_
  exact ⟨z6, rfl⟩

theorem closure_c (x y : MC) (w : World) : Calls Tryd.prog 29 (List.toArray [.agg (List.toArray x.enc), .agg (List.toArray y.enc)]) w (Ret No w fun v _ => v = .int .i64 (cfM x y)) := by
  rw [MC.enc_eq]
  refine (in1_c w (M := No) (Old.no _) x.m.id x.m.base x.m.end_ x.m.time y.m.id y.m.base y.m.end_ y.m.time x.a x.b y.a y.b x.2.1 x.2.2.1 y.2.1 y.2.2.1).mono fun e w' h => ?_
  cases e with
  | returned v =>
    obtain ⟨h2, rfl⟩ := h
    refine ⟨h2, ?_⟩
    unfold cfM orL orL orL
    congr 1
    split
    · split <;> simp_all
    · rfl
  | panicked c => exact h.elim
  | outgrown => exact h.elim
end Go.Proofs.YtnkafkikjcgogaaDoor
