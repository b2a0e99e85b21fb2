import Derived.Test.YtnkafkikjcgogaaDoorSxe
import Derived.Test.YtnkafkikjcgogaaDoorFx
import Derived.Test.YtnkafkikjcgogaaDoorProg
import Derived.Test.YtnkafkikjcgogaaDoorMod
set_option linter.unusedVariables false
set_option linter.unusedSimpArgs false
set_option maxRecDepth 4000
set_option maxHeartbeats 2000000
namespace Go.Proofs.YtnkafkikjcgogaaDoor
open Go.Sx Fx

theorem number_c (w : World) (a b : Int) (hb : 0 < b) (hb2 : b ≤ 4611686018427387904) (ha1 : -9223372036854775808 ≤ a) (ha2 : a ≤ 9223372036854775807) :
    Calls Tryd.prog 9 (List.toArray [.int .i64 a, .int .i64 b]) w (Ret No w fun v _ => v = .int .i64 (a % b)) := by
  refine enter (n := 15) [(0, .int .i64 a), (1, .int .i64 b)] Tryd.func9 rfl (by kernel_rfl) ?_
  have ht := tmod_bd a b hb
  refine seq ?_
  refine region [true] ?_
  refine q_assign (v := .int .i64 0) rfl rfl ?_
  refine done ?_
  refine thenN ?_
  refine seq ?_
  refine region [true, true, true, true] ?_
  refine q_move (v := .int .i64 a) rfl rfl ?_
  refine q_move (v := .int .i64 b) rfl rfl ?_
  refine q_rem rfl rfl rfl (by omega) rfl ?_
  refine q_assign (v := .int .i64 (a.tmod b)) rfl rfl ?_
  refine done ?_
  refine thenN ?_
  refine seq ?_
  refine seq ?_
  refine region [true, true] ?_
  refine q_move (v := .int .i64 (a.tmod b)) rfl rfl ?_
  refine q_lss rfl rfl rfl ?_
  refine done ?_
  refine thenN ?_
  refine cond_b rfl (fun h_1 => ?_) (fun h_1 => ?_)
  · skip
    have h_1p := of_decide_eq_true h_1
    refine region [true, true, true, true] ?_
    refine q_move (v := .int .i64 (a.tmod b)) rfl rfl ?_
    refine q_move (v := .int .i64 b) rfl rfl ?_
    refine q_add rfl rfl rfl (wi64 (by omega) (by omega)) ?_
    refine q_assign (v := .int .i64 ((a.tmod b) + b)) rfl rfl ?_
    refine done ?_
    refine thenN ?_
    refine seq ?_
    refine region [true, true] ?_
    refine q_move (v := .int .i64 ((a.tmod b) + b)) rfl rfl ?_
    refine q_assign (v := .int .i64 ((a.tmod b) + b)) rfl rfl ?_
    refine done ?_
    refine thenN ?_
    refine wp_ret ?_
    refine ret1v (.int .i64 ((a.tmod b) + b)) rfl rfl ?_
    exact ⟨Evo.refl _ _, congrArg _ (tmod_neg a b hb h_1p)⟩
  · skip
    have h_1p := of_decide_eq_false h_1
    refine wp_skip ?_
    refine thenN ?_
    refine seq ?_
    refine region [true, true] ?_
    refine q_move (v := .int .i64 (a.tmod b)) rfl rfl ?_
    refine q_assign (v := .int .i64 (a.tmod b)) rfl rfl ?_
    refine done ?_
    refine thenN ?_
    refine wp_ret ?_
    refine ret1v (.int .i64 (a.tmod b)) rfl rfl ?_
    exact ⟨Evo.refl _ _, congrArg _ (tmod_pos a b hb h_1p)⟩

theorem none_c (w : World) {M : Nat → Prop} (hM : Old M w) :
    Calls Tryd.prog 44 (List.toArray []) w (Ret No w fun v _ => v = flt 0 false 0) := by
  refine enter (n := 2) [] Tryd.func44 rfl (by kernel_rfl) ?_
  refine seq ?_
  refine region [false] ?_
  refine l_alloc (M := M) Keep.any hM rfl ze57 (fun k_1 w1 s1 ck_1 nk_1 ok_1 => ?_)
  have lk_1_0 : w.heap.size ≤ k_1 := Nat.le_trans (Evo.refl M _).size nk_1
  have lk_1_w : w.heap.size ≤ k_1 := nk_1
  have e0_1 : Evo M w w1 := s1.no
  have z1 : Evo No w w1 := s1.no
  have hlk_1 := ck_1.lt
  refine done ?_
  refine thenN ?_
  refine seq ?_
  refine region [true, false] ?_
  refine q_build (.agg (List.toArray [.int .i64 0, .bool false, .int .i64 0])) rfl rfl (fun _ => by kernel_rfl) ?_
  refine l_store Keep.any rfl rfl ck_1 rfl sz57 rfl (Nat.le_of_ble_eq_true rfl) rfl (cs' := [.int .i64 0, .bool false, .int .i64 0]) rfl (fun w2 s2 c_2 => ?_)
  have e0_2 : Evo M w w2 := e0_1.fresh s2 lk_1_0
  have e1_2 : Evo (Plus M k_1) w1 w2 := (Evo.refl (Plus M k_1) _).fstep s2 (inX Plus.in)
  have z2 : Evo No w w2 := z1.fresh s2 lk_1_w
  refine done ?_
  refine thenN ?_
  refine wp_ret ?_
  refine retCell (Q := fun _ _ _ => True) rfl rfl ag57 c_2 rfl ?_
  exact ⟨z2, rfl⟩

theorem bare_c (w : World) {M : Nat → Prop} (hM : Old M w) (c : Int) :
    Calls Tryd.prog 26 (List.toArray [.int .i64 c]) w (Ret No w fun v _ => v = flt c false 0) := by
  refine enter (n := 5) [(0, .int .i64 c)] Tryd.func26 rfl (by kernel_rfl) ?_
  refine seq ?_
  refine region [false] ?_
  refine l_alloc (M := M) Keep.any hM rfl ze57 (fun k_1 w1 s1 ck_1 nk_1 ok_1 => ?_)
  have lk_1_0 : w.heap.size ≤ k_1 := Nat.le_trans (Evo.refl M _).size nk_1
  have lk_1_w : w.heap.size ≤ k_1 := nk_1
  have e0_1 : Evo M w w1 := s1.no
  have z1 : Evo No w w1 := s1.no
  have hlk_1 := ck_1.lt
  refine done ?_
  refine thenN ?_
  refine seq ?_
  refine region [true, true, false] ?_
  refine q_move (v := .int .i64 c) rfl rfl ?_
  refine q_build (.agg (List.toArray [.int .i64 c, .bool false, .int .i64 0])) rfl rfl (fun _ => by kernel_rfl) ?_
  refine l_store Keep.any rfl rfl ck_1 rfl sz57 rfl (Nat.le_of_ble_eq_true rfl) rfl (cs' := [.int .i64 c, .bool false, .int .i64 0]) rfl (fun w2 s2 c_2 => ?_)
  have e0_2 : Evo M w w2 := e0_1.fresh s2 lk_1_0
  have e1_2 : Evo (Plus M k_1) w1 w2 := (Evo.refl (Plus M k_1) _).fstep s2 (inX Plus.in)
  have z2 : Evo No w w2 := z1.fresh s2 lk_1_w
  refine done ?_
  refine thenN ?_
  refine wp_ret ?_
  refine retCell (Q := fun _ _ _ => True) rfl rfl ag57 c_2 rfl ?_
  exact ⟨z2, rfl⟩

theorem sameFault_c (w : World) {M : Nat → Prop} (hM : Old M w) (c1 c2 p1 p2 : Int) (x1 x2 : Bool) :
    Calls Tryd.prog 52 (List.toArray [flt c1 x1 p1, flt c2 x2 p2]) w (Ret No w fun v _ => v = .bool (decide (c1 = c2) && decide (x1 = x2) && decide (p1 = p2))) := by
  refine enter (n := 24) [(0, .agg (List.toArray [.int .i64 c1, .bool x1, .int .i64 p1])), (1, .agg (List.toArray [.int .i64 c2, .bool x2, .int .i64 p2]))] Tryd.func52 rfl (by kernel_rfl) ?_
  refine seq ?_
  refine region [false, false, true] ?_
  refine l_box (M := M) Keep.any hM rfl rfl (fun k_1 w1 s1 fk_1 nk_1 => ?_)
  have e0_1 : Evo M w w1 := s1.no
  have z1 : Evo No w w1 := s1.no
  refine l_box (M := M) Keep.any (hM.on z1) rfl rfl (fun k_2 w2 s2 fk_2 nk_2 => ?_)
  have e0_2 : Evo M w w2 := e0_1.trans s2.no
  have e1_2 : Evo M w1 w2 := s2.no
  have z2 : Evo No w w2 := z1.trans s2.no
  refine q_assign (v := .bool false) rfl rfl ?_
  refine done ?_
  refine thenN ?_
  refine seq ?_
  refine region [true, false, true, false, true, true, true, false, true, false, true, true, true, true, false, true, false, true, true, true] ?_
  refine q_fieldAddr rfl rfl fl57_0 ?_
  refine l_loadB trivial rfl rfl pl3 (fk_1.now e1_2) rfl ?_
  refine q_fieldAddr rfl rfl fl57_0 ?_
  refine l_loadB trivial rfl rfl pl3 (fk_2.now (Evo.refl M _)) rfl ?_
  refine q_eql rfl rfl rfl ?_
  refine q_move (v := .bool (decide (c1 = c2))) rfl rfl ?_
  rcases bsplit (decide (c1 = c2)) with h_3 | h_3
  · skip
    have h_3p := of_decide_eq_true h_3
    refine q_fieldAddr (gtt h_3) rfl fl57_1 ?_
    refine l_loadB trivial (gtt h_3) rfl pl4 (fk_1.now e1_2) rfl ?_
    refine q_fieldAddr (gtt h_3) rfl fl57_1 ?_
    refine l_loadB trivial (gtt h_3) rfl pl4 (fk_2.now (Evo.refl M _)) rfl ?_
    refine q_boolEql (gtt h_3) rfl rfl bo4 ?_
    refine q_pick_bt (v := .bool (decide ((x1 : Bool) = x2))) rfl rfl h_3 rfl ?_
    refine q_move (v := .bool (decide ((x1 : Bool) = x2))) rfl rfl ?_
    rcases bsplit (decide ((x1 : Bool) = x2)) with h_4 | h_4
    · skip
      have h_4p := of_decide_eq_true h_4
      refine q_fieldAddr (gtt h_4) rfl fl57_2 ?_
      refine l_loadB trivial (gtt h_4) rfl pl3 (fk_1.now e1_2) rfl ?_
      refine q_fieldAddr (gtt h_4) rfl fl57_2 ?_
      refine l_loadB trivial (gtt h_4) rfl pl3 (fk_2.now (Evo.refl M _)) rfl ?_
      refine q_eql (gtt h_4) rfl rfl ?_
      refine q_pick_bt (v := .bool (decide (p1 = p2))) rfl rfl h_4 rfl ?_
      refine q_assign (v := .bool (decide (p1 = p2))) rfl rfl ?_
      refine done ?_
      refine thenN ?_
      refine wp_ret ?_
      refine ret1v (.bool (decide (p1 = p2))) rfl rfl ?_
      exact ⟨z2, by simp [*]⟩
    · skip
      have h_4p := of_decide_eq_false h_4
      refine q_no (gft h_4) ?_
      refine l_no (gft h_4) ?_
      refine q_no (gft h_4) ?_
      refine l_no (gft h_4) ?_
      refine q_no (gft h_4) ?_
      refine q_pick_bf (v := .bool false) rfl rfl h_4 rfl ?_
      refine q_assign (v := .bool false) rfl rfl ?_
      refine done ?_
      refine thenN ?_
      refine wp_ret ?_
      refine ret1v (.bool false) rfl rfl ?_
      exact ⟨z2, by simp [*]⟩
  · skip
    have h_3p := of_decide_eq_false h_3
    refine q_no (gft h_3) ?_
    refine l_no (gft h_3) ?_
    refine q_no (gft h_3) ?_
    refine l_no (gft h_3) ?_
    refine q_no (gft h_3) ?_
    refine q_pick_bf (v := .bool false) rfl rfl h_3 rfl ?_
    refine q_move (v := .bool false) rfl rfl ?_
    refine q_no rfl ?_
    refine l_no rfl ?_
    refine q_no rfl ?_
    refine l_no rfl ?_
    refine q_no rfl ?_
    refine q_pick_f (v := .bool false) rfl rfl rfl ?_
    refine q_assign (v := .bool false) rfl rfl ?_
    refine done ?_
    refine thenN ?_
    refine wp_ret ?_
    refine ret1v (.bool false) rfl rfl ?_
    exact ⟨z2, by simp [*]⟩

theorem entryNext_c (w : World) (s k : Int) :
    Calls Tryd.prog 22 (List.toArray [.int .i64 s, .int .i64 k]) w (Ret No w fun v _ => v = .bool (nextOk s k)) := by
  refine enter (n := 26) [(0, .int .i64 s), (1, .int .i64 k)] Tryd.func22 rfl (by kernel_rfl) ?_
  refine seq ?_
  refine region [true] ?_
  refine q_assign (v := .bool false) rfl rfl ?_
  refine done ?_
  refine thenN ?_
  refine seq ?_
  refine seq ?_
  refine region [true] ?_
  refine q_move (v := .int .i64 k) rfl rfl ?_
  refine done ?_
  refine thenN ?_
  refine blk ?_
  refine seq ?_
  refine region [true, true] ?_
  refine q_eql rfl rfl rfl ?_
  refine q_assign (v := .bool (decide (k = 1))) rfl rfl ?_
  refine done ?_
  refine thenN ?_
  refine cond_b rfl (fun h_1 => ?_) (fun h_1 => ?_)
  · skip
    have h_1p := of_decide_eq_true h_1
    refine seq ?_
    refine region [true, true, true] ?_
    refine q_move (v := .int .i64 s) rfl rfl ?_
    refine q_eql rfl rfl rfl ?_
    refine q_assign (v := .bool (decide (s = 0))) rfl rfl ?_
    refine done ?_
    refine thenN ?_
    refine wp_ret ?_
    refine blkR ?_
    refine thenR ?_
    refine ret1v (.bool (decide (s = 0))) rfl rfl ?_
    exact ⟨Evo.refl _ _, by simp [nextOk, *]⟩
  · skip
    have h_1p := of_decide_eq_false h_1
    refine seq ?_
    refine region [true, true] ?_
    refine q_eql rfl rfl rfl ?_
    refine q_assign (v := .bool (decide (k = 2))) rfl rfl ?_
    refine done ?_
    refine thenN ?_
    refine cond_b rfl (fun h_2 => ?_) (fun h_2 => ?_)
    · skip
      have h_2p := of_decide_eq_true h_2
      refine seq ?_
      refine region [true, true, true] ?_
      refine q_move (v := .int .i64 s) rfl rfl ?_
      refine q_eql rfl rfl rfl ?_
      refine q_assign (v := .bool (decide (s = 1))) rfl rfl ?_
      refine done ?_
      refine thenN ?_
      refine wp_ret ?_
      refine blkR ?_
      refine thenR ?_
      refine ret1v (.bool (decide (s = 1))) rfl rfl ?_
      exact ⟨Evo.refl _ _, by simp [nextOk, *]⟩
    · skip
      have h_2p := of_decide_eq_false h_2
      refine seq ?_
      refine region [true, true] ?_
      refine q_eql rfl rfl rfl ?_
      refine q_assign (v := .bool (decide (k = 3))) rfl rfl ?_
      refine done ?_
      refine thenN ?_
      refine cond_b rfl (fun h_3 => ?_) (fun h_3 => ?_)
      · skip
        have h_3p := of_decide_eq_true h_3
        refine seq ?_
        refine region [true, true, true, true, true, true, true] ?_
        refine q_move (v := .int .i64 s) rfl rfl ?_
        refine q_eql rfl rfl rfl ?_
        refine q_move (v := .bool (decide (s = 1))) rfl rfl ?_
        rcases bsplit (decide (s = 1)) with h_4 | h_4
        · skip
          have h_4p := of_decide_eq_true h_4
          refine q_no (gtf h_4) ?_
          refine q_no (gtf h_4) ?_
          refine q_pick_bt (v := .bool true) rfl rfl h_4 rfl ?_
          refine q_assign (v := .bool true) rfl rfl ?_
          refine done ?_
          refine thenN ?_
          refine wp_ret ?_
          refine blkR ?_
          refine thenR ?_
          refine ret1v (.bool true) rfl rfl ?_
          exact ⟨Evo.refl _ _, by simp [nextOk, *]⟩
        · skip
          have h_4p := of_decide_eq_false h_4
          refine q_move (v := .int .i64 s) (gff h_4) rfl ?_
          refine q_eql (gff h_4) rfl rfl ?_
          refine q_pick_bf (v := .bool (decide (s = 2))) rfl rfl h_4 rfl ?_
          refine q_assign (v := .bool (decide (s = 2))) rfl rfl ?_
          refine done ?_
          refine thenN ?_
          refine wp_ret ?_
          refine blkR ?_
          refine thenR ?_
          refine ret1v (.bool (decide (s = 2))) rfl rfl ?_
          exact ⟨Evo.refl _ _, by simp [nextOk, *]⟩
      · skip
        have h_3p := of_decide_eq_false h_3
        refine seq ?_
        refine region [true, true] ?_
        refine q_eql rfl rfl rfl ?_
        refine q_assign (v := .bool (decide (k = 4))) rfl rfl ?_
        refine done ?_
        refine thenN ?_
        refine cond_b rfl (fun h_5 => ?_) (fun h_5 => ?_)
        · skip
          have h_5p := of_decide_eq_true h_5
          refine seq ?_
          refine region [true, true, true] ?_
          refine q_move (v := .int .i64 s) rfl rfl ?_
          refine q_eql rfl rfl rfl ?_
          refine q_assign (v := .bool (decide (s = 3))) rfl rfl ?_
          refine done ?_
          refine thenN ?_
          refine wp_ret ?_
          refine blkR ?_
          refine thenR ?_
          refine ret1v (.bool (decide (s = 3))) rfl rfl ?_
          exact ⟨Evo.refl _ _, by simp [nextOk, *]⟩
        · skip
          have h_5p := of_decide_eq_false h_5
          refine wp_skip ?_
          refine blkN ?_
          refine thenN ?_
          refine seq ?_
          refine region [true] ?_
          refine q_assign (v := .bool false) rfl rfl ?_
          refine done ?_
          refine thenN ?_
          refine wp_ret ?_
          refine ret1v (.bool false) rfl rfl ?_
          exact ⟨Evo.refl _ _, by simp [nextOk, *]⟩

theorem clonePairs_c {M : Nat → Prop} (w : World) (hM : Old M w) (rows : List (List Value)) (a : Option Addr) (n c : Nat) (h : At M w (Sl 2 rows a n c)) (hn : n ≤ 2147483648) :
    Calls Tryd.prog 50 (List.toArray [.slice a n c]) w (Ret No w fun v w9 => ∃ a9 c9, v = .slice a9 n c9 ∧ At M w9 (Sl 2 rows a9 n c9)) := by
  refine enter (n := 8) [(0, .slice a n c)] Tryd.func50 rfl (by kernel_rfl) ?_
  refine seq ?_
  refine region [true] ?_
  refine q_assign (v := .slice none 0 0) rfl rfl ?_
  refine done ?_
  refine thenN ?_
  refine seq ?_
  refine seq ?_
  refine region [true, true] ?_
  refine q_move (v := .slice a n c) rfl rfl ?_
  refine q_slNilEql rfl rfl sl28 ?_
  refine done ?_
  refine thenN ?_
  refine cond_b rfl (fun h_1 => ?_) (fun h_1 => ?_)
  · skip
    refine seq ?_
    refine region [true] ?_
    refine q_assign (v := .slice none 0 0) rfl rfl ?_
    refine done ?_
    refine thenN ?_
    refine wp_ret ?_
    refine thenR ?_
    refine ret1v (.slice none 0 0) rfl rfl ?_
    obtain ⟨hz1, hz2⟩ := h.here.zero h_1
    subst hz1 hz2
    exact ⟨Evo.refl _ _, none, 0, rfl, fun w9 _ => Sl.nul _ w9⟩
  · skip
    refine wp_skip ?_
    refine thenN ?_
    refine seq ?_
    refine region [false, true, false, true] ?_
    refine l_buildSlice (M := M) (e := 61) (cs := []) Keep.any hM rfl rfl (fun _ => by kernel_rfl) (fun k_2 w1 s1 fk_2 nk_2 => ?_)
    have e0_1 : Evo M w w1 := s1.no
    have z1 : Evo No w w1 := s1.no
    refine q_move (v := .slice a n c) rfl rfl ?_
    refine l_append (k := 2) (news := rows) Keep.any rfl rfl rfl ap28 (Own.empty (fk_2.now (Evo.refl M _))) (Src.of un28 (h.now e0_1)) (h.now e0_1).len (h.now e0_1).shape (by omega) (by decide) (fun am_3 cm_3 w2 s2 Om_3 fm_3 nm_3 => ?_)
    have lom_3_0 := own_lo fm_3 (own_lo_some (Nat.le_trans (Evo.refl M _).size nk_2)) e0_1.size
    have lom_3_w := own_lo fm_3 (own_lo_some (Nat.le_trans (Evo.refl No _).size nk_2)) z1.size
    have e0_2 : Evo M w w2 := Evo.own e0_1 s2 (own_lo_some (Nat.le_trans (Evo.refl M _).size nk_2))
    have z2 : Evo No w w2 := Evo.own z1 s2 (own_lo_some (Nat.le_trans (Evo.refl No _).size nk_2))
    refine q_assign (v := .slice am_3 (0 + n) cm_3) rfl rfl ?_
    refine done ?_
    refine thenN ?_
    refine wp_ret ?_
    refine ret1v (.slice am_3 (0 + n) cm_3) rfl rfl ?_
    rw [show 0 + n = n from Nat.zero_add n] at *
    exact ⟨z2, _, _, rfl, Om_3.at_ (own_notM hM lom_3_w)⟩

theorem cloneObjs_c {M : Nat → Prop} (w : World) (hM : Old M w) (rows : List (List Value)) (a : Option Addr) (n c : Nat) (h : At M w (Sl 3 rows a n c)) (hn : n ≤ 2147483648) :
    Calls Tryd.prog 51 (List.toArray [.slice a n c]) w (Ret No w fun v w9 => ∃ a9 c9, v = .slice a9 n c9 ∧ At M w9 (Sl 3 rows a9 n c9)) := by
  refine enter (n := 8) [(0, .slice a n c)] Tryd.func51 rfl (by kernel_rfl) ?_
  refine seq ?_
  refine region [true] ?_
  refine q_assign (v := .slice none 0 0) rfl rfl ?_
  refine done ?_
  refine thenN ?_
  refine seq ?_
  refine seq ?_
  refine region [true, true] ?_
  refine q_move (v := .slice a n c) rfl rfl ?_
  refine q_slNilEql rfl rfl sl29 ?_
  refine done ?_
  refine thenN ?_
  refine cond_b rfl (fun h_1 => ?_) (fun h_1 => ?_)
  · skip
    refine seq ?_
    refine region [true] ?_
    refine q_assign (v := .slice none 0 0) rfl rfl ?_
    refine done ?_
    refine thenN ?_
    refine wp_ret ?_
    refine thenR ?_
    refine ret1v (.slice none 0 0) rfl rfl ?_
    obtain ⟨hz1, hz2⟩ := h.here.zero h_1
    subst hz1 hz2
    exact ⟨Evo.refl _ _, none, 0, rfl, fun w9 _ => Sl.nul _ w9⟩
  · skip
    refine wp_skip ?_
    refine thenN ?_
    refine seq ?_
    refine region [false, true, false, true] ?_
    refine l_buildSlice (M := M) (e := 46) (cs := []) Keep.any hM rfl rfl (fun _ => by kernel_rfl) (fun k_2 w1 s1 fk_2 nk_2 => ?_)
    have e0_1 : Evo M w w1 := s1.no
    have z1 : Evo No w w1 := s1.no
    refine q_move (v := .slice a n c) rfl rfl ?_
    refine l_append (k := 3) (news := rows) Keep.any rfl rfl rfl ap29 (Own.empty (fk_2.now (Evo.refl M _))) (Src.of un29 (h.now e0_1)) (h.now e0_1).len (h.now e0_1).shape (by omega) (by decide) (fun am_3 cm_3 w2 s2 Om_3 fm_3 nm_3 => ?_)
    have lom_3_0 := own_lo fm_3 (own_lo_some (Nat.le_trans (Evo.refl M _).size nk_2)) e0_1.size
    have lom_3_w := own_lo fm_3 (own_lo_some (Nat.le_trans (Evo.refl No _).size nk_2)) z1.size
    have e0_2 : Evo M w w2 := Evo.own e0_1 s2 (own_lo_some (Nat.le_trans (Evo.refl M _).size nk_2))
    have z2 : Evo No w w2 := Evo.own z1 s2 (own_lo_some (Nat.le_trans (Evo.refl No _).size nk_2))
    refine q_assign (v := .slice am_3 (0 + n) cm_3) rfl rfl ?_
    refine done ?_
    refine thenN ?_
    refine wp_ret ?_
    refine ret1v (.slice am_3 (0 + n) cm_3) rfl rfl ?_
    rw [show 0 + n = n from Nat.zero_add n] at *
    exact ⟨z2, _, _, rfl, Om_3.at_ (own_notM hM lom_3_w)⟩

theorem cloneBytes_c {M : Nat → Prop} (w : World) (hM : Old M w) (rows : List (List Value)) (a : Option Addr) (n c : Nat) (h : At M w (Sl 1 rows a n c)) (hn : n ≤ 2147483648) :
    Calls Tryd.prog 59 (List.toArray [.slice a n c]) w (Ret No w fun v w9 => ∃ a9 c9, v = .slice a9 n c9 ∧ At M w9 (Sl 1 rows a9 n c9)) := by
  refine enter (n := 8) [(0, .slice a n c)] Tryd.func59 rfl (by kernel_rfl) ?_
  refine seq ?_
  refine region [true] ?_
  refine q_assign (v := .slice none 0 0) rfl rfl ?_
  refine done ?_
  refine thenN ?_
  refine seq ?_
  refine seq ?_
  refine region [true, true] ?_
  refine q_move (v := .slice a n c) rfl rfl ?_
  refine q_slNilEql rfl rfl sl49 ?_
  refine done ?_
  refine thenN ?_
  refine cond_b rfl (fun h_1 => ?_) (fun h_1 => ?_)
  · skip
    refine seq ?_
    refine region [true] ?_
    refine q_assign (v := .slice none 0 0) rfl rfl ?_
    refine done ?_
    refine thenN ?_
    refine wp_ret ?_
    refine thenR ?_
    refine ret1v (.slice none 0 0) rfl rfl ?_
    obtain ⟨hz1, hz2⟩ := h.here.zero h_1
    subst hz1 hz2
    exact ⟨Evo.refl _ _, none, 0, rfl, fun w9 _ => Sl.nul _ w9⟩
  · skip
    refine wp_skip ?_
    refine thenN ?_
    refine seq ?_
    refine region [false, true, false, true] ?_
    refine l_buildSlice (M := M) (e := 5) (cs := []) Keep.any hM rfl rfl (fun _ => by kernel_rfl) (fun k_2 w1 s1 fk_2 nk_2 => ?_)
    have e0_1 : Evo M w w1 := s1.no
    have z1 : Evo No w w1 := s1.no
    refine q_move (v := .slice a n c) rfl rfl ?_
    refine l_append (k := 1) (news := rows) Keep.any rfl rfl rfl ap49 (Own.empty (fk_2.now (Evo.refl M _))) (Src.of un49 (h.now e0_1)) (h.now e0_1).len (h.now e0_1).shape (by omega) (by decide) (fun am_3 cm_3 w2 s2 Om_3 fm_3 nm_3 => ?_)
    have lom_3_0 := own_lo fm_3 (own_lo_some (Nat.le_trans (Evo.refl M _).size nk_2)) e0_1.size
    have lom_3_w := own_lo fm_3 (own_lo_some (Nat.le_trans (Evo.refl No _).size nk_2)) z1.size
    have e0_2 : Evo M w w2 := Evo.own e0_1 s2 (own_lo_some (Nat.le_trans (Evo.refl M _).size nk_2))
    have z2 : Evo No w w2 := Evo.own z1 s2 (own_lo_some (Nat.le_trans (Evo.refl No _).size nk_2))
    refine q_assign (v := .slice am_3 (0 + n) cm_3) rfl rfl ?_
    refine done ?_
    refine thenN ?_
    refine wp_ret ?_
    refine ret1v (.slice am_3 (0 + n) cm_3) rfl rfl ?_
    rw [show 0 + n = n from Nat.zero_add n] at *
    exact ⟨z2, _, _, rfl, Om_3.at_ (own_notM hM lom_3_w)⟩

theorem refPairs_c {M : Nat → Prop} (w : World) (hM : Old M w) (xs : List (Int × Int)) (a : Option Addr) (n c : Nat) (h : At M w (Sl 2 (xs.map encP) a n c)) (hn : n ≤ 2147483648) :
    Calls Tryd.prog 34 (List.toArray [.slice a n c]) w (Ret No w fun v w9 => ∃ a9 c9, v = .slice a9 n c9 ∧ At M w9 (Sl 2 (xs.map encP) a9 n c9)) := by
  refine enter (n := 22) [(0, .slice a n c)] Tryd.func34 rfl (by kernel_rfl) ?_
  refine seq ?_
  refine region [true] ?_
  refine q_assign (v := .slice none 0 0) rfl rfl ?_
  refine done ?_
  refine thenN ?_
  refine seq ?_
  refine region [true, true, false, true] ?_
  refine q_move (v := .slice a n c) rfl rfl ?_
  refine q_len rfl rfl el28 ?_
  refine l_make0 (c := n) Keep.any rfl rfl rfl (by first | rfl | omega) ap28 (by omega) (by decide) (fun am_1 w1 s1 Om_1 nm_1 => ?_)
  have e0_1 : Evo M w w1 := s1.no
  have z1 : Evo No w w1 := s1.no
  refine q_assign (v := .slice am_1 0 n) rfl rfl ?_
  refine done ?_
  refine thenN ?_
  refine seq ?_
  refine seq ?_
  refine region [true] ?_
  refine q_assign (v := .int .i64 0) rfl rfl ?_
  refine done ?_
  refine thenN ?_
  refine blk ?_
  refine loopN [8, 9, 10, 11, 14, 15, 16, 17, 18, 19, 20, 3, 12, 13, 4] (fun k9 R9 wJ => ∃ (j : Nat), ∃ (b9 : Option Addr), ∃ (d9 : Nat), R9 = [(3, .slice b9 j d9), (4, .int .i64 (j : Int))] ∧ (j ≤ n) ∧ (Own 2 61 ((xs.map encP).take j) b9 j d9 wJ) ∧ (∀ b, OwnB b9 b → w.heap.size ≤ b) ∧ (Evo No w wJ) ∧ k9 = n - j) ⟨_, _, ⟨0, am_1, n, rfl, Nat.zero_le _, Om_1, (fun b hb => hb.2 ▸ Nat.le_trans (Evo.refl No _).size nm_1), z1, rfl⟩, ⟨(by kernel_rfl), (by kernel_rfl), trivial⟩⟩ (fun k9 R9 u_2 w2 J_3 => ?_)
  obtain ⟨j, b9, d9, rfl, hj, O9, lo9, z9, rfl⟩ := J_3
  have e0_2 : Evo M w w2 := z9.no
  skip
  refine seq ?_
  refine seq ?_
  refine region [true, true, true, true] ?_
  refine q_move (v := .int .i64 (j : Int)) rfl rfl ?_
  refine q_move (v := .slice a n c) rfl rfl ?_
  refine q_len rfl rfl el28 ?_
  refine q_lss rfl rfl rfl ?_
  refine done ?_
  refine thenN ?_
  refine cond_b rfl (fun h_4 => ?_) (fun h_4 => ?_)
  · skip
    have h_4p := of_decide_eq_true h_4
    refine wp_skip ?_
    refine thenN ?_
    refine seq ?_
    refine blk ?_
    refine region [true, true, true, true, false, false, false, true] ?_
    refine q_move (v := .slice b9 j d9) rfl rfl ?_
    refine q_move (v := .slice a n c) rfl rfl ?_
    refine q_move (v := .int .i64 (j : Int)) rfl rfl ?_
    obtain ⟨x_5, hx_5⟩ := Sl.get (xs := xs) h.here (i := (j : Int)) (by omega) (by omega)
    have Ax_5 := Sl.areaAt h (Sl.map_get hx_5)
    refine q_indexS' rfl rfl rfl el28 (h.here.there (by omega)).1 (by omega) (by omega) ?_
    refine l_loadN trivial rfl rfl ag61 rfl (Ax_5.now e0_2) ?_
    refine l_buildSlice (M := M) (e := 61) (cs := [.int .i64 x_5.1, .int .i64 x_5.2]) Keep.any (hM.on z9) rfl rfl (fun _ => by kernel_rfl) (fun k_6 w3 s3 fk_6 nk_6 => ?_)
    have e0_3 : Evo M w w3 := e0_2.trans s3.no
    have z3 : Evo No w w3 := z9.trans s3.no
    have O_7 := O9.no s3
    refine l_append (k := 2) (news := [[.int .i64 x_5.1, .int .i64 x_5.2]]) Keep.any rfl rfl rfl ap28 O_7 (Src.of un28 (Sl.ofBlk (k := 2) (rows := [[.int .i64 x_5.1, .int .i64 x_5.2]]) (fk_6.now (Evo.refl M _)) rfl (by simp) rfl)) (Sl.ofBlk (k := 2) (rows := [[.int .i64 x_5.1, .int .i64 x_5.2]]) (fk_6.now (Evo.refl M _)) rfl (by simp) rfl).len (Sl.ofBlk (k := 2) (rows := [[.int .i64 x_5.1, .int .i64 x_5.2]]) (fk_6.now (Evo.refl M _)) rfl (by simp) rfl).shape (by omega) (by decide) (fun am_8 cm_8 w4 s4 Om_8 fm_8 nm_8 => ?_)
    have lom_8_0 := own_lo fm_8 lo9 e0_3.size
    have lom_8_w := own_lo fm_8 lo9 z3.size
    have e0_4 : Evo M w w4 := Evo.own e0_3 s4 lo9
    have z4 : Evo No w w4 := Evo.own z3 s4 lo9
    refine q_assign (v := .slice am_8 (j + 1) cm_8) rfl rfl ?_
    refine done ?_
    refine blkN ?_
    refine thenN ?_
    refine region [true, true, true] ?_
    refine q_move (v := .int .i64 (j : Int)) rfl rfl ?_
    refine q_add rfl rfl rfl (wi64 (by omega) (by omega)) ?_
    refine q_assign (v := .int .i64 ((j : Int) + 1)) rfl rfl ?_
    refine done ?_
    refine thenN ?_
    have ht : (xs.map encP).take (j + 1) = (xs.map encP).take j ++ [encP x_5] := take_snoc (i := j) hx_5
    refine ⟨_, _, ?_, ⟨j + 1, am_8, cm_8, rfl, by omega, by rw [ht]; exact Om_8, lom_8_w, z4, rfl⟩, Env.near_at 32 (by kernel_rfl) (by kernel_rfl) ⟨(show _ = Value.slice am_8 (j + 1) cm_8 from rfl), (Eq.trans (b := Go.Value.int .i64 ((j : Int) + 1)) (by kernel_rfl) (nextI j)), trivial⟩⟩
    omega
  · skip
    have h_4p := of_decide_eq_false h_4
    refine wp_exit ?_
    refine thenX ?_
    refine thenX ?_
    refine blkX ?_
    refine thenN ?_
    refine seq ?_
    refine region [true, true] ?_
    refine q_move (v := .slice b9 j d9) rfl rfl ?_
    refine q_assign (v := .slice b9 j d9) rfl rfl ?_
    refine done ?_
    refine thenN ?_
    refine wp_ret ?_
    refine ret1v (.slice b9 j d9) rfl rfl ?_
    have hjn : j = n := by omega
    subst hjn
    have hl := h.here.len
    rw [List.take_of_length_le (by omega)] at *
    exact ⟨z9, _, _, rfl, O9.at_ (own_notM hM lo9)⟩

theorem refObjs_c {M : Nat → Prop} (w : World) (hM : Old M w) (xs : List Obj) (a : Option Addr) (n c : Nat) (h : At M w (Sl 3 (xs.map encO) a n c)) (hn : n ≤ 2147483648) :
    Calls Tryd.prog 35 (List.toArray [.slice a n c]) w (Ret No w fun v w9 => ∃ a9 c9, v = .slice a9 n c9 ∧ At M w9 (Sl 3 (xs.map encO) a9 n c9)) := by
  refine enter (n := 22) [(0, .slice a n c)] Tryd.func35 rfl (by kernel_rfl) ?_
  refine seq ?_
  refine region [true] ?_
  refine q_assign (v := .slice none 0 0) rfl rfl ?_
  refine done ?_
  refine thenN ?_
  refine seq ?_
  refine region [true, true, false, true] ?_
  refine q_move (v := .slice a n c) rfl rfl ?_
  refine q_len rfl rfl el29 ?_
  refine l_make0 (c := n) Keep.any rfl rfl rfl (by first | rfl | omega) ap29 (by omega) (by decide) (fun am_1 w1 s1 Om_1 nm_1 => ?_)
  have e0_1 : Evo M w w1 := s1.no
  have z1 : Evo No w w1 := s1.no
  refine q_assign (v := .slice am_1 0 n) rfl rfl ?_
  refine done ?_
  refine thenN ?_
  refine seq ?_
  refine seq ?_
  refine region [true] ?_
  refine q_assign (v := .int .i64 0) rfl rfl ?_
  refine done ?_
  refine thenN ?_
  refine blk ?_
  refine loopN [8, 9, 10, 11, 14, 15, 16, 17, 18, 19, 20, 3, 12, 13, 4] (fun k9 R9 wJ => ∃ (j : Nat), ∃ (b9 : Option Addr), ∃ (d9 : Nat), R9 = [(3, .slice b9 j d9), (4, .int .i64 (j : Int))] ∧ (j ≤ n) ∧ (Own 3 46 ((xs.map encO).take j) b9 j d9 wJ) ∧ (∀ b, OwnB b9 b → w.heap.size ≤ b) ∧ (Evo No w wJ) ∧ k9 = n - j) ⟨_, _, ⟨0, am_1, n, rfl, Nat.zero_le _, Om_1, (fun b hb => hb.2 ▸ Nat.le_trans (Evo.refl No _).size nm_1), z1, rfl⟩, ⟨(by kernel_rfl), (by kernel_rfl), trivial⟩⟩ (fun k9 R9 u_2 w2 J_3 => ?_)
  obtain ⟨j, b9, d9, rfl, hj, O9, lo9, z9, rfl⟩ := J_3
  have e0_2 : Evo M w w2 := z9.no
  skip
  refine seq ?_
  refine seq ?_
  refine region [true, true, true, true] ?_
  refine q_move (v := .int .i64 (j : Int)) rfl rfl ?_
  refine q_move (v := .slice a n c) rfl rfl ?_
  refine q_len rfl rfl el29 ?_
  refine q_lss rfl rfl rfl ?_
  refine done ?_
  refine thenN ?_
  refine cond_b rfl (fun h_4 => ?_) (fun h_4 => ?_)
  · skip
    have h_4p := of_decide_eq_true h_4
    refine wp_skip ?_
    refine thenN ?_
    refine seq ?_
    refine blk ?_
    refine region [true, true, true, true, false, false, false, true] ?_
    refine q_move (v := .slice b9 j d9) rfl rfl ?_
    refine q_move (v := .slice a n c) rfl rfl ?_
    refine q_move (v := .int .i64 (j : Int)) rfl rfl ?_
    obtain ⟨x_5, hx_5⟩ := Sl.get (xs := xs) h.here (i := (j : Int)) (by omega) (by omega)
    have Ax_5 := Sl.areaAt h (Sl.map_get hx_5)
    refine q_indexS' rfl rfl rfl el29 (h.here.there (by omega)).1 (by omega) (by omega) ?_
    refine l_loadN trivial rfl rfl ag46 rfl (Ax_5.now e0_2) ?_
    refine l_buildSlice (M := M) (e := 46) (cs := [.string x_5.name, .int .i64 x_5.len, .int .u32 x_5.sum]) Keep.any (hM.on z9) rfl rfl (fun _ => by kernel_rfl) (fun k_6 w3 s3 fk_6 nk_6 => ?_)
    have e0_3 : Evo M w w3 := e0_2.trans s3.no
    have z3 : Evo No w w3 := z9.trans s3.no
    have O_7 := O9.no s3
    refine l_append (k := 3) (news := [[.string x_5.name, .int .i64 x_5.len, .int .u32 x_5.sum]]) Keep.any rfl rfl rfl ap29 O_7 (Src.of un29 (Sl.ofBlk (k := 3) (rows := [[.string x_5.name, .int .i64 x_5.len, .int .u32 x_5.sum]]) (fk_6.now (Evo.refl M _)) rfl (by simp) rfl)) (Sl.ofBlk (k := 3) (rows := [[.string x_5.name, .int .i64 x_5.len, .int .u32 x_5.sum]]) (fk_6.now (Evo.refl M _)) rfl (by simp) rfl).len (Sl.ofBlk (k := 3) (rows := [[.string x_5.name, .int .i64 x_5.len, .int .u32 x_5.sum]]) (fk_6.now (Evo.refl M _)) rfl (by simp) rfl).shape (by omega) (by decide) (fun am_8 cm_8 w4 s4 Om_8 fm_8 nm_8 => ?_)
    have lom_8_0 := own_lo fm_8 lo9 e0_3.size
    have lom_8_w := own_lo fm_8 lo9 z3.size
    have e0_4 : Evo M w w4 := Evo.own e0_3 s4 lo9
    have z4 : Evo No w w4 := Evo.own z3 s4 lo9
    refine q_assign (v := .slice am_8 (j + 1) cm_8) rfl rfl ?_
    refine done ?_
    refine blkN ?_
    refine thenN ?_
    refine region [true, true, true] ?_
    refine q_move (v := .int .i64 (j : Int)) rfl rfl ?_
    refine q_add rfl rfl rfl (wi64 (by omega) (by omega)) ?_
    refine q_assign (v := .int .i64 ((j : Int) + 1)) rfl rfl ?_
    refine done ?_
    refine thenN ?_
    have ht : (xs.map encO).take (j + 1) = (xs.map encO).take j ++ [encO x_5] := take_snoc (i := j) hx_5
    refine ⟨_, _, ?_, ⟨j + 1, am_8, cm_8, rfl, by omega, by rw [ht]; exact Om_8, lom_8_w, z4, rfl⟩, Env.near_at 32 (by kernel_rfl) (by kernel_rfl) ⟨(show _ = Value.slice am_8 (j + 1) cm_8 from rfl), (Eq.trans (b := Go.Value.int .i64 ((j : Int) + 1)) (by kernel_rfl) (nextI j)), trivial⟩⟩
    omega
  · skip
    have h_4p := of_decide_eq_false h_4
    refine wp_exit ?_
    refine thenX ?_
    refine thenX ?_
    refine blkX ?_
    refine thenN ?_
    refine seq ?_
    refine region [true, true] ?_
    refine q_move (v := .slice b9 j d9) rfl rfl ?_
    refine q_assign (v := .slice b9 j d9) rfl rfl ?_
    refine done ?_
    refine thenN ?_
    refine wp_ret ?_
    refine ret1v (.slice b9 j d9) rfl rfl ?_
    have hjn : j = n := by omega
    subst hjn
    have hl := h.here.len
    rw [List.take_of_length_le (by omega)] at *
    exact ⟨z9, _, _, rfl, O9.at_ (own_notM hM lo9)⟩
end Go.Proofs.YtnkafkikjcgogaaDoor
