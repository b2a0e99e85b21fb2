import Derived.Test.YtnkafkikjcgogaaDoorSxf
import Derived.Test.YtnkafkikjcgogaaDoorF5
import Derived.Test.YtnkafkikjcgogaaDoorProg
import Derived.Test.YtnkafkikjcgogaaDoorMod
import Derived.Test.YtnkafkikjcgogaaDoorVw1
set_option linter.unusedVariables false
set_option linter.unusedSimpArgs false
set_option maxRecDepth 4000
set_option maxHeartbeats 2000000
namespace Go.Proofs.YtnkafkikjcgogaaDoor
open Go.Sx F5

theorem eqPtr : eqPtrB Tryd.prog 34 tErr = true := by kernel_rfl
theorem senEql {bl : Nat → Addr} {w : World} (G : Gl bl w) {g h : Nat} (hg : g < 19) (hh : h < 19) : (binOp .eql 34 (sen bl g) (sen bl h)).run Tryd.prog w = .ok (.bool (decide (g = h))) w := by
  obtain ⟨_, _, hs⟩ := G.blk g hg
  obtain ⟨_, _, hs'⟩ := G.blk h hh
  have := run_eql_ptrs eqPtr hs hs'
  rw [show decide (g = h) = decide (bl g = bl h) from decide_eq_decide.2 ⟨fun e => by rw [e], fun e => G.inj g h hg hh e⟩]
  exact this
/-- The sentinels in the statements' order. -/
def senL : List Nat := [6, 7, 3, 2, 4, 5, 8, 9, 10, 11, 12, 0, 1, 13, 14, 15, 16, 17, 18]
theorem senL_lt : ∀ c ∈ senL, c < 19 := by decide
theorem senL_all : ∀ c, c < 19 → c ∈ senL := by decide
def codeOf (g : Nat) : Int := 101 + (senL.idxOf g : Nat)
def fc : Er → Int
  | .ok => 0
  | .e g => codeOf g
  | .at_ _ g => codeOf g
def fp : Er → Bool
  | .at_ _ _ => true
  | _ => false
def fo : Er → Int
  | .at_ p _ => p
  | _ => 0
theorem codeOf_ne (g : Nat) : codeOf g ≠ 0 := by unfold codeOf; omega

theorem alike_c {M : Nat → Prop} (w : World) (hM : Old M w) (bl : Nat → Addr) (hG : At M w (Gl bl)) (g h : Nat) (hg : g < 19) (hh : h < 19) :
    Calls Tryd.prog 98 (List.toArray [sen bl g, sen bl h]) w (Ret No w fun v _ => v = .bool (decide (g = h))) := by
  refine enter (n := 20) [(0, sen bl g), (1, sen bl h)] Tryd.func98 rfl (by kernel_rfl) ?_
  refine seq ?_
  refine region [true] ?_
  refine q_assign (v := .bool false) rfl rfl ?_
  refine done ?_
  refine thenN ?_
  refine seq ?_
  refine seq ?_
  refine region [true, true, true, true, true, true] ?_
  refine q_move (v := sen bl g) rfl rfl ?_
  refine q_ifEql rfl rfl if34 ?_
  refine q_move (v := .bool false) rfl rfl ?_
  refine q_move (v := sen bl h) rfl rfl ?_
  refine q_ifEql rfl rfl if34 ?_
  refine q_pick_f (v := .bool false) rfl rfl rfl ?_
  refine done ?_
  refine thenN ?_
  refine cond_f rfl ?_
  refine wp_skip ?_
  refine thenN ?_
  refine seq ?_
  refine region [true, true, false, true] ?_
  refine q_move (v := sen bl g) rfl rfl ?_
  refine q_move (v := sen bl h) rfl rfl ?_
  refine l_eqOf (b := decide (g = h)) trivial rfl rfl rfl (senEql (hG.now (Evo.refl M _)) hg hh) rfl ?_
  refine q_assign (v := .bool (decide (g = h))) rfl rfl ?_
  refine done ?_
  refine thenN ?_
  refine wp_ret ?_
  refine ret1v (.bool (decide (g = h))) rfl rfl ?_
  exact ⟨Evo.refl _ _, rfl⟩

theorem sentinels_c {M : Nat → Prop} (w : World) (hM : Old M w) (bl : Nat → Addr) (hG : At M w (Gl bl)) :
    Calls Tryd.prog 97 (List.toArray []) w (Ret No w fun v w9 => ∃ a, v = .slice a 19 19 ∧ At M w9 (Sl 1 (senL.map (encG bl)) a 19 19)) := by
  refine enter (n := 21) [] Tryd.func97 rfl (by kernel_rfl) ?_
  refine seq ?_
  refine region [true] ?_
  refine q_assign (v := .slice none 0 0) rfl rfl ?_
  refine done ?_
  refine thenN ?_
  refine seq ?_
  refine region [false, false, false, false, false, false, false, false, false, false, false, false, false, false, false, false, false, false, false, false, true] ?_
  refine l_load trivial rfl rfl pl34 ((hG.now (Evo.refl M _)).cell 6 (by decide)) ?_
  refine l_load trivial rfl rfl pl34 ((hG.now (Evo.refl M _)).cell 7 (by decide)) ?_
  refine l_load trivial rfl rfl pl34 ((hG.now (Evo.refl M _)).cell 3 (by decide)) ?_
  refine l_load trivial rfl rfl pl34 ((hG.now (Evo.refl M _)).cell 2 (by decide)) ?_
  refine l_load trivial rfl rfl pl34 ((hG.now (Evo.refl M _)).cell 4 (by decide)) ?_
  refine l_load trivial rfl rfl pl34 ((hG.now (Evo.refl M _)).cell 5 (by decide)) ?_
  refine l_load trivial rfl rfl pl34 ((hG.now (Evo.refl M _)).cell 8 (by decide)) ?_
  refine l_load trivial rfl rfl pl34 ((hG.now (Evo.refl M _)).cell 9 (by decide)) ?_
  refine l_load trivial rfl rfl pl34 ((hG.now (Evo.refl M _)).cell 10 (by decide)) ?_
  refine l_load trivial rfl rfl pl34 ((hG.now (Evo.refl M _)).cell 11 (by decide)) ?_
  refine l_load trivial rfl rfl pl34 ((hG.now (Evo.refl M _)).cell 12 (by decide)) ?_
  refine l_load trivial rfl rfl pl34 ((hG.now (Evo.refl M _)).cell 0 (by decide)) ?_
  refine l_load trivial rfl rfl pl34 ((hG.now (Evo.refl M _)).cell 1 (by decide)) ?_
  refine l_load trivial rfl rfl pl34 ((hG.now (Evo.refl M _)).cell 13 (by decide)) ?_
  refine l_load trivial rfl rfl pl34 ((hG.now (Evo.refl M _)).cell 14 (by decide)) ?_
  refine l_load trivial rfl rfl pl34 ((hG.now (Evo.refl M _)).cell 15 (by decide)) ?_
  refine l_load trivial rfl rfl pl34 ((hG.now (Evo.refl M _)).cell 16 (by decide)) ?_
  refine l_load trivial rfl rfl pl34 ((hG.now (Evo.refl M _)).cell 17 (by decide)) ?_
  refine l_load trivial rfl rfl pl34 ((hG.now (Evo.refl M _)).cell 18 (by decide)) ?_
  refine l_buildSlice (M := M) (e := 34) (cs := [sen bl 6, sen bl 7, sen bl 3, sen bl 2, sen bl 4, sen bl 5, sen bl 8, sen bl 9, sen bl 10, sen bl 11, sen bl 12, sen bl 0, sen bl 1, sen bl 13, sen bl 14, sen bl 15, sen bl 16, sen bl 17, sen bl 18]) Keep.any hM rfl rfl (fun _ => by kernel_rfl) (fun k_1 w1 s1 fk_1 nk_1 => ?_)
  have e0_1 : Evo M w w1 := s1.no
  have z1 : Evo No w w1 := s1.no
  refine q_assign (v := .slice (some ⟨k_1, 0, none⟩) 19 19) rfl rfl ?_
  refine done ?_
  refine thenN ?_
  refine wp_ret ?_
  refine ret1v (.slice (some ⟨k_1, 0, none⟩) 19 19) rfl rfl ?_
  exact ⟨z1, _, rfl, (fk_1.on (Evo.refl M _)).imp fun w9 _ h => Sl.ofBlk (k := 1) (rows := senL.map (encG bl)) h rfl (by simp [senL, encG]) (by simp [sen, Value.oneCell'])⟩

theorem sentinel_c {M : Nat → Prop} (w : World) (hM : Old M w) (bl : Nat → Addr) (hG : At M w (Gl bl)) (g : Nat) (hg : g < 19) :
    Calls Tryd.prog 79 (List.toArray [sen bl g]) w (Ret No w fun v _ => v = .int .i64 (codeOf g)) := by
  refine enter (n := 20) [(0, sen bl g)] Tryd.func79 rfl (by kernel_rfl) ?_
  refine seq ?_
  refine region [true] ?_
  refine q_assign (v := .int .i64 0) rfl rfl ?_
  refine done ?_
  refine thenN ?_
  refine seq ?_
  refine region [false, true] ?_
  refine l_call Keep.any rfl (sentinels_c (M := M) w hM bl (hG.on (Evo.refl M _))) en97 rfl rfl (fun v_3 w1 s1 q_4 => ?_)
  have e0_1 : Evo M w w1 := s1.no
  have z1 : Evo No w w1 := s1.no
  obtain ⟨a_1, rfl, r_2⟩ := q_4
  refine q_assign (v := .slice a_1 19 19) rfl rfl ?_
  refine done ?_
  refine thenN ?_
  refine seq ?_
  refine seq ?_
  refine region [true] ?_
  refine q_assign (v := .int .i64 0) rfl rfl ?_
  refine done ?_
  refine thenN ?_
  refine blk ?_
  have hSl := r_2.on (Evo.refl M _)
  refine loopN [6, 7, 8, 9, 12, 13, 14, 15, 16, 17, 18, 19, 2, 10, 11, 4] (fun k9 R9 wJ => ∃ (j : Nat), R9 = [(4, .int .i64 (j : Int))] ∧ (j ≤ 19) ∧ (g ∉ senL.take j) ∧ (Evo No w1 wJ) ∧ (Evo No w wJ) ∧ k9 = 19 - j) ⟨_, _, ⟨0, rfl, by omega, by simp, Evo.refl _ _, z1, rfl⟩, ⟨(by kernel_rfl), trivial⟩⟩ (fun k9 R9 u_5 w2 J_6 => ?_)
  obtain ⟨j, rfl, hj, hq, x9, z9, rfl⟩ := J_6
  have e0_2 : Evo M w w2 := z9.no
  have hS9 := hSl.on x9.no
  refine seq ?_
  refine seq ?_
  refine region [true, true, true, true] ?_
  refine q_move (v := .int .i64 (j : Int)) rfl rfl ?_
  refine q_move (v := .slice a_1 19 19) rfl rfl ?_
  refine q_len rfl rfl el142 ?_
  refine q_lss rfl rfl rfl ?_
  refine done ?_
  refine thenN ?_
  refine cond_b rfl (fun h_7 => ?_) (fun h_7 => ?_)
  · skip
    have h_7p := of_decide_eq_true h_7
    refine wp_skip ?_
    refine thenN ?_
    refine seq ?_
    refine blk ?_
    refine seq ?_
    refine region [true, true, true, true, false, false] ?_
    refine q_move (v := sen bl g) rfl rfl ?_
    refine q_move (v := .slice a_1 19 19) rfl rfl ?_
    refine q_move (v := .int .i64 (j : Int)) rfl rfl ?_
    obtain ⟨x_8, hx_8⟩ := Sl.get (xs := senL) hS9.here (i := (j : Int)) (by omega) (by omega)
    have Ax_8 := Sl.areaAt hS9 (Sl.map_get hx_8)
    refine q_indexS' rfl rfl rfl el142 (hS9.here.there (by omega)).1 (by omega) (by omega) ?_
    refine l_load trivial rfl rfl pl34 ((Ax_8.now (Evo.refl M _)) 0 _ rfl) ?_
    refine l_call Keep.any rfl (alike_c (M := M) w2 (hM.on z9) bl (hG.on e0_2) g x_8 hg (senL_lt _ (List.mem_of_getElem? hx_8))) en98 rfl rfl (fun v_9 w3 s3 q_10 => ?_)
    have e0_3 : Evo M w w3 := e0_2.trans s3.no
    have e2_3 : Evo M w2 w3 := s3.no
    have ex_3 : Evo No w1 w3 := x9.trans s3.no
    have z3 : Evo No w w3 := z9.trans s3.no
    obtain rfl := q_10
    refine done ?_
    refine thenN ?_
    refine cond_b rfl (fun h_11 => ?_) (fun h_11 => ?_)
    · skip
      have h_11p := of_decide_eq_true h_11
      refine seq ?_
      refine region [true, true, true] ?_
      refine q_move (v := .int .i64 (j : Int)) rfl rfl ?_
      refine q_add rfl rfl rfl (wi64 (by omega) (by omega)) ?_
      refine q_assign (v := .int .i64 (101 + (j : Int))) rfl rfl ?_
      refine done ?_
      refine thenN ?_
      refine wp_ret ?_
      refine blkR ?_
      refine thenR ?_
      refine thenR ?_
      refine blkR ?_
      refine thenR ?_
      refine ret1v (.int .i64 (101 + (j : Int))) rfl rfl ?_
      have hd : g = x_8 := of_decide_eq_true h_11
      exact ⟨z3, by unfold codeOf; rw [idx_at (j := j) (by rw [hd]; exact hx_8) hq]⟩
    · skip
      have h_11p := of_decide_eq_false h_11
      refine wp_skip ?_
      refine blkN ?_
      refine thenN ?_
      refine region [true, true, true] ?_
      refine q_move (v := .int .i64 (j : Int)) rfl rfl ?_
      refine q_add rfl rfl rfl (wi64 (by omega) (by omega)) ?_
      refine q_assign (v := .int .i64 ((j : Int) + 1)) rfl rfl ?_
      refine done ?_
      refine thenN ?_
      have hd : g ≠ x_8 := of_decide_eq_false h_11
      refine ⟨_, _, ?_, ⟨j + 1, rfl, by omega, by rw [List.take_add_one, show senL[j]? = some x_8 from hx_8]; simp [hq, hd], ex_3, z3, rfl⟩, Env.near_at 30 (by kernel_rfl) (by kernel_rfl) ⟨(Eq.trans (b := Go.Value.int .i64 ((j : Int) + 1)) (by kernel_rfl) (nextI j)), trivial⟩⟩
      omega
  · skip
    have h_7p := of_decide_eq_false h_7
    refine wp_exit ?_
    refine thenX ?_
    refine thenX ?_
    refine blkX ?_
    refine thenN ?_
    refine seq ?_
    refine region [true] ?_
    refine q_assign (v := .int .i64 (-1)) rfl rfl ?_
    refine done ?_
    refine thenN ?_
    refine wp_ret ?_
    refine ret1v (.int .i64 (-1)) rfl rfl ?_
    exact absurd (senL_all g hg) (by rw [show j = 19 from by omega] at hq; exact hq)

theorem placed_c (w : World) {M : Nat → Prop} (hM : Old M w) (c q : Int) (hc : c ≠ 0) :
    Calls Tryd.prog 72 (List.toArray [.int .i64 c, .int .i64 q]) w (Ret No w fun v _ => v = flt c true q) := by
  refine enter (n := 11) [(0, .int .i64 c), (1, .int .i64 q)] Tryd.func72 rfl (by kernel_rfl) ?_
  refine seq ?_
  refine region [false] ?_
  refine l_alloc (M := M) Keep.any hM rfl ze57 (fun k_1 w1 s1 ck_1 nk_1 ok_1 => ?_)
  have lk_1_0 : w.heap.size ≤ k_1 := Nat.le_trans (Evo.refl M _).size nk_1
  have lk_1_w : w.heap.size ≤ k_1 := nk_1
  have e0_1 : Evo M w w1 := s1.no
  have z1 : Evo No w w1 := s1.no
  have hlk_1 := ck_1.lt
  refine done ?_
  refine thenN ?_
  refine seq ?_
  refine seq ?_
  refine region [true, true] ?_
  refine q_move (v := .int .i64 c) rfl rfl ?_
  refine q_eql rfl rfl rfl ?_
  refine done ?_
  refine thenN ?_
  refine cond_b rfl (fun h_2 => ?_) (fun h_2 => ?_)
  · skip
    have h_2p := of_decide_eq_true h_2
    exact absurd h_2p hc
  · skip
    have h_2p := of_decide_eq_false h_2
    refine wp_skip ?_
    refine thenN ?_
    refine seq ?_
    refine region [true, true, true, false] ?_
    refine q_move (v := .int .i64 c) rfl rfl ?_
    refine q_move (v := .int .i64 q) rfl rfl ?_
    refine q_build (.agg (List.toArray [.int .i64 c, .bool true, .int .i64 q])) rfl rfl (fun _ => by kernel_rfl) ?_
    refine l_store Keep.any rfl rfl ck_1 rfl sz57 rfl (Nat.le_of_ble_eq_true rfl) rfl (cs' := [.int .i64 c, .bool true, .int .i64 q]) rfl (fun w2 s2 c_3 => ?_)
    have e0_2 : Evo M w w2 := e0_1.fresh s2 lk_1_0
    have e1_2 : Evo (Plus M k_1) w1 w2 := (Evo.refl (Plus M k_1) _).fstep s2 (inX Plus.in)
    have z2 : Evo No w w2 := z1.fresh s2 lk_1_w
    refine done ?_
    refine thenN ?_
    refine wp_ret ?_
    refine retCell (Q := fun _ _ _ => True) rfl rfl ag57 c_3 rfl ?_
    exact ⟨z2, rfl⟩

theorem fault_ok {M : Nat → Prop} (w : World) (hM : Old M w) (bl : Nat → Addr) (hG : At M w (Gl bl)) :
    Calls Tryd.prog 53 (List.toArray [.nilIface]) w (Ret No w fun v _ => v = flt 0 false 0) := by
  refine enter (n := 38) [(0, .nilIface)] Tryd.func53 rfl (by kernel_rfl) ?_
  refine seq ?_
  refine region [false] ?_
  refine l_alloc (M := M) Keep.any hM rfl ze57 (fun k_1 w1 s1 ck_1 nk_1 ok_1 => ?_)
  have lk_1_0 : w.heap.size ≤ k_1 := Nat.le_trans (Evo.refl M _).size nk_1
  have lk_1_w : w.heap.size ≤ k_1 := nk_1
  have e0_1 : Evo M w w1 := s1.no
  have z1 : Evo No w w1 := s1.no
  have hlk_1 := ck_1.lt
  refine done ?_
  refine thenN ?_
  refine seq ?_
  refine seq ?_
  refine region [true, true] ?_
  refine q_move (v := .nilIface) rfl rfl ?_
  refine q_nilEql rfl rfl if34 ?_
  refine done ?_
  refine thenN ?_
  refine cond_t rfl ?_
  refine seq ?_
  refine region [false, false] ?_
  refine l_call Keep.any rfl (none_c w1 (M := No) (Old.no _)) en44 rfl rfl (fun v_2 w2 s2 q_3 => ?_)
  have e0_2 : Evo M w w2 := e0_1.trans s2.no
  have z2 : Evo No w w2 := z1.trans s2.no
  have c_4 := ck_1.no s2
  obtain rfl := q_3
  refine l_store Keep.any rfl rfl c_4 rfl sz57 rfl (Nat.le_of_ble_eq_true rfl) rfl (cs' := [.int .i64 0, .bool false, .int .i64 0]) rfl (fun w3 s3 c_5 => ?_)
  have e0_3 : Evo M w w3 := e0_2.fresh s3 lk_1_0
  have z3 : Evo No w w3 := z2.fresh s3 lk_1_w
  refine done ?_
  refine thenN ?_
  refine wp_ret ?_
  refine thenR ?_
  refine retCell (Q := fun _ _ _ => True) rfl rfl ag57 c_5 rfl ?_
  exact ⟨z3, rfl⟩

theorem fault_e {M : Nat → Prop} (w : World) (hM : Old M w) (bl : Nat → Addr) (hG : At M w (Gl bl)) (g : Nat) (hg : g < 19) :
    Calls Tryd.prog 53 (List.toArray [sen bl g]) w (Ret No w fun v _ => v = flt (codeOf g) false 0) := by
  refine enter (n := 38) [(0, sen bl g)] Tryd.func53 rfl (by kernel_rfl) ?_
  refine seq ?_
  refine region [false] ?_
  refine l_alloc (M := M) Keep.any hM rfl ze57 (fun k_1 w1 s1 ck_1 nk_1 ok_1 => ?_)
  have lk_1_0 : w.heap.size ≤ k_1 := Nat.le_trans (Evo.refl M _).size nk_1
  have lk_1_w : w.heap.size ≤ k_1 := nk_1
  have e0_1 : Evo M w w1 := s1.no
  have z1 : Evo No w w1 := s1.no
  have hlk_1 := ck_1.lt
  refine done ?_
  refine thenN ?_
  refine seq ?_
  refine seq ?_
  refine region [true, true] ?_
  refine q_move (v := sen bl g) rfl rfl ?_
  refine q_ifEql rfl rfl if34 ?_
  refine done ?_
  refine thenN ?_
  refine cond_f rfl ?_
  refine wp_skip ?_
  refine thenN ?_
  refine seq ?_
  refine region [true, true, true, true, true, true, true] ?_
  refine q_move (v := sen bl g) rfl rfl ?_
  refine q_assert_f (z := .pointer none) rfl rfl (by decide) ni119 zv119 ?_
  refine q_move (v := .tuple #[.pointer none, .bool false]) rfl rfl ?_
  refine q_extract rfl rfl rfl ?_
  refine q_extract rfl rfl rfl ?_
  refine q_assign (v := .pointer none) rfl rfl ?_
  refine q_assign (v := .bool false) rfl rfl ?_
  refine done ?_
  refine thenN ?_
  refine seq ?_
  refine seq ?_
  refine region [true, true] ?_
  refine q_move (v := .bool false) rfl rfl ?_
  refine q_not rfl rfl ?_
  refine done ?_
  refine thenN ?_
  refine cond_t rfl ?_
  refine seq ?_
  refine region [true, false, false, false] ?_
  refine q_move (v := sen bl g) rfl rfl ?_
  refine l_call Keep.any rfl (sentinel_c (M := M) w1 (hM.on z1) bl (hG.on e0_1) g hg) en79 rfl rfl (fun v_2 w2 s2 q_3 => ?_)
  have e0_2 : Evo M w w2 := e0_1.trans s2.no
  have z2 : Evo No w w2 := z1.trans s2.no
  have c_4 := ck_1.no s2
  obtain rfl := q_3
  refine l_call Keep.any rfl (bare_c w2 (M := No) (Old.no _) (codeOf g)) en26 rfl rfl (fun v_5 w3 s3 q_6 => ?_)
  have e0_3 : Evo M w w3 := e0_2.trans s3.no
  have z3 : Evo No w w3 := z2.trans s3.no
  have c_7 := c_4.no s3
  obtain rfl := q_6
  refine l_store Keep.any rfl rfl c_7 rfl sz57 rfl (Nat.le_of_ble_eq_true rfl) rfl (cs' := [.int .i64 (codeOf g), .bool false, .int .i64 0]) rfl (fun w4 s4 c_8 => ?_)
  have e0_4 : Evo M w w4 := e0_3.fresh s4 lk_1_0
  have z4 : Evo No w w4 := z3.fresh s4 lk_1_w
  refine done ?_
  refine thenN ?_
  refine wp_ret ?_
  refine thenR ?_
  refine retCell (Q := fun _ _ _ => True) rfl rfl ag57 c_8 rfl ?_
  exact ⟨z4, rfl⟩

theorem fault_at {M : Nat → Prop} (w : World) (hM : Old M w) (bl : Nat → Addr) (hG : At M w (Gl bl)) (g : Nat) (hg : g < 19) (q : Int) (b : Nat) (hb : At M w (Blk b [.int .i64 q, sen bl g] tAtS)) :
    Calls Tryd.prog 53 (List.toArray [.iface tAt (.pointer (some ⟨b, 0, none⟩))]) w (Ret No w fun v _ => v = flt (codeOf g) true q) := by
  refine enter (n := 38) [(0, .iface tAt (.pointer (some ⟨b, 0, none⟩)))] Tryd.func53 rfl (by kernel_rfl) ?_
  refine seq ?_
  refine region [false] ?_
  refine l_alloc (M := M) Keep.any hM rfl ze57 (fun k_1 w1 s1 ck_1 nk_1 ok_1 => ?_)
  have lk_1_0 : w.heap.size ≤ k_1 := Nat.le_trans (Evo.refl M _).size nk_1
  have lk_1_w : w.heap.size ≤ k_1 := nk_1
  have e0_1 : Evo M w w1 := s1.no
  have z1 : Evo No w w1 := s1.no
  have hlk_1 := ck_1.lt
  refine done ?_
  refine thenN ?_
  refine seq ?_
  refine seq ?_
  refine region [true, true] ?_
  refine q_move (v := .iface tAt (.pointer (some ⟨b, 0, none⟩))) rfl rfl ?_
  refine q_ifEql rfl rfl if34 ?_
  refine done ?_
  refine thenN ?_
  refine cond_f rfl ?_
  refine wp_skip ?_
  refine thenN ?_
  refine seq ?_
  refine region [true, true, true, true, true, true, true] ?_
  refine q_move (v := .iface tAt (.pointer (some ⟨b, 0, none⟩))) rfl rfl ?_
  refine q_assert_t (v := .pointer (some ⟨b, 0, none⟩)) rfl rfl ni119 ?_
  refine q_move (v := .tuple #[.pointer (some ⟨b, 0, none⟩), .bool true]) rfl rfl ?_
  refine q_extract rfl rfl rfl ?_
  refine q_extract rfl rfl rfl ?_
  refine q_assign (v := .pointer (some ⟨b, 0, none⟩)) rfl rfl ?_
  refine q_assign (v := .bool true) rfl rfl ?_
  refine done ?_
  refine thenN ?_
  refine seq ?_
  refine seq ?_
  refine region [true, true] ?_
  refine q_move (v := .bool true) rfl rfl ?_
  refine q_not rfl rfl ?_
  refine done ?_
  refine thenN ?_
  refine cond_f rfl ?_
  refine wp_skip ?_
  refine thenN ?_
  refine seq ?_
  refine seq ?_
  refine region [true, true, true, true, true, true, false, true, true] ?_
  refine q_move (v := .pointer (some ⟨b, 0, none⟩)) rfl rfl ?_
  refine q_ptrNil rfl rfl pt119 ?_
  refine q_move (v := .bool false) rfl rfl ?_
  refine q_move (v := .pointer (some ⟨b, 0, none⟩)) rfl rfl ?_
  refine q_nilCheck rfl rfl ?_
  refine q_fieldAddr rfl rfl fl121_1 ?_
  refine l_loadB trivial rfl rfl pl34 (hb.now e0_1) rfl ?_
  refine q_ifEql rfl rfl if34 ?_
  refine q_pick_f (v := .bool false) rfl rfl rfl ?_
  refine done ?_
  refine thenN ?_
  refine cond_f rfl ?_
  refine wp_skip ?_
  refine thenN ?_
  refine seq ?_
  refine regionD (· = k_1) (.q 0 (.q 1 (.q 2 (.q 3 (.q 5 (.q 6 (.q 7 (.q 8 (.l 4 (.l 9 (.l 10 (.nil)))))))))))) mixed (by kernel_rfl) (by kernel_rfl) (by kernel_rfl) (fun w2 s2 => ?_)
  have e0_2 : Evo M w w2 := e0_1.trans s2.no
  have z2 : Evo No w w2 := z1.trans s2.no
  have c_2 := ck_1.no s2
  have rgr_3_2 : Evo (· = k_1) w1 w2 := s2.no
  refine q_move (v := .pointer (some ⟨b, 0, none⟩)) rfl rfl ?_
  refine q_nilCheck rfl rfl ?_
  refine q_fieldAddr rfl rfl fl121_1 ?_
  refine q_loadB rfl rfl pl34 (hb.via e0_1 (freshX lk_1_0)) rfl ?_
  refine q_move (v := .pointer (some ⟨b, 0, none⟩)) rfl rfl ?_
  refine q_nilCheck rfl rfl ?_
  refine q_fieldAddr rfl rfl fl121_0 ?_
  refine q_loadB rfl rfl pl3 (hb.via e0_1 (freshX lk_1_0)) rfl ?_
  refine l_call (Keep.evo rgr_3_2 noX) rfl (sentinel_c (M := M) w2 (hM.on z2) bl (hG.on e0_2) g hg) en79 rfl rfl (fun v_4 w3 s3 q_5 => ?_)
  have e0_3 : Evo M w w3 := e0_2.trans s3.no
  have z3 : Evo No w w3 := z2.trans s3.no
  have c_6 := c_2.no s3
  have rgr_3_3 : Evo (· = k_1) w1 w3 := rgr_3_2.trans s3.no
  obtain rfl := q_5
  refine l_call (Keep.evo rgr_3_3 noX) rfl (placed_c w3 (M := No) (Old.no _) (codeOf g) q (codeOf_ne g)) en72 rfl rfl (fun v_7 w4 s4 q_8 => ?_)
  have e0_4 : Evo M w w4 := e0_3.trans s4.no
  have z4 : Evo No w w4 := z3.trans s4.no
  have c_9 := c_6.no s4
  have rgr_3_4 : Evo (· = k_1) w1 w4 := rgr_3_3.trans s4.no
  obtain rfl := q_8
  refine l_store (Keep.evo rgr_3_4 (inX rfl)) rfl rfl c_9 rfl sz57 rfl (Nat.le_of_ble_eq_true rfl) rfl (cs' := [.int .i64 (codeOf g), .bool true, .int .i64 q]) rfl (fun w5 s5 c_10 => ?_)
  have e0_5 : Evo M w w5 := e0_4.fresh s5 lk_1_0
  have z5 : Evo No w w5 := z4.fresh s5 lk_1_w
  have rgr_3_5 : Evo (· = k_1) w1 w5 := rgr_3_4.fstep s5 (inX rfl)
  refine done ?_
  refine thenN ?_
  refine wp_ret ?_
  refine retCell (Q := fun _ _ _ => True) rfl rfl ag57 c_10 rfl ?_
  exact ⟨z5, rfl⟩

theorem fault_c {M : Nat → Prop} (w : World) (hM : Old M w) (bl : Nat → Addr) (hG : At M w (Gl bl)) (er : Er) (e : Value) (h : At M w (ErIs bl er e)) (hs : er.small) : Calls Tryd.prog 53 (List.toArray [e]) w (Ret No w fun v _ => v = flt (fc er) (fp er) (fo er)) := by
  cases er with
  | ok => rw [show e = _ from h.here]; exact fault_ok w hM bl hG
  | e g => rw [show e = _ from h.here]; exact fault_e w hM bl hG g hs
  | at_ q g => obtain ⟨b, rfl, hb⟩ := Er_at h; exact fault_at w hM bl hG g hs q b hb

theorem seeSame_c {M : Nat → Prop} (w : World) (hM : Old M w) (bl : Nat → Addr) (hG : At M w (Gl bl)) (er : Er) (e : Value) (h : At M w (ErIs bl er e)) (hs : er.small) (c : Int) (x : Bool) (o : Int) :
    Calls Tryd.prog 25 (List.toArray [e, flt c x o]) w (Ret No w fun v _ => v = .bool (decide (fc er = c) && decide (fp er = x) && decide (fo er = o))) := by
  refine enter (n := 9) [(0, e), (1, .agg (List.toArray [.int .i64 c, .bool x, .int .i64 o]))] Tryd.func25 rfl (by kernel_rfl) ?_
  refine seq ?_
  refine region [false, true] ?_
  refine l_box (M := M) Keep.any hM rfl rfl (fun k_1 w1 s1 fk_1 nk_1 => ?_)
  have e0_1 : Evo M w w1 := s1.no
  have z1 : Evo No w w1 := s1.no
  refine q_assign (v := .bool false) rfl rfl ?_
  refine done ?_
  refine thenN ?_
  refine seq ?_
  refine regionD No (.q 0 (.q 2 (.l 1 (.l 3 (.q 4 (.nil)))))) mixed (by kernel_rfl) (by kernel_rfl) (by kernel_rfl) (fun w2 s2 => ?_)
  have e0_2 : Evo M w w2 := e0_1.trans s2.no
  have e1_2 : Evo M w1 w2 := s2.no
  have z2 : Evo No w w2 := z1.trans s2.no
  have rgr_2_2 : Evo No w1 w2 := s2.no
  refine q_move (v := e) rfl rfl ?_
  refine q_loadBN ([.int .i64 c, .bool x, .int .i64 o]) rfl rfl ag57 rfl (fk_1.via (Evo.refl _ _) noX) rfl ?_
  refine l_call (Keep.evo rgr_2_2 noX) rfl (fault_c (M := M) w2 (hM.on z2) bl (hG.on e0_2) er e (h.on e0_2) hs) en53 rfl rfl (fun v_3 w3 s3 q_4 => ?_)
  have e0_3 : Evo M w w3 := e0_2.trans s3.no
  have e1_3 : Evo M w1 w3 := e1_2.trans s3.no
  have z3 : Evo No w w3 := z2.trans s3.no
  have rgr_2_3 : Evo No w1 w3 := rgr_2_2.trans s3.no
  obtain rfl := q_4
  refine l_call (Keep.evo rgr_2_3 noX) rfl (sameFault_c w3 (M := No) (Old.no _) _ _ _ _ _ _) en52 rfl rfl (fun v_5 w4 s4 q_6 => ?_)
  have e0_4 : Evo M w w4 := e0_3.trans s4.no
  have e1_4 : Evo M w1 w4 := e1_3.trans s4.no
  have z4 : Evo No w w4 := z3.trans s4.no
  have rgr_2_4 : Evo No w1 w4 := rgr_2_3.trans s4.no
  obtain rfl := q_6
  refine q_assign (v := .bool (decide (fc er = c) && decide (fp er = x) && decide (fo er = o))) rfl rfl ?_
  refine done ?_
  refine thenN ?_
  refine wp_ret ?_
  refine ret1v (.bool (decide (fc er = c) && decide (fp er = x) && decide (fo er = o))) rfl rfl ?_
  exact ⟨z4, rfl⟩

theorem seeIs_c {M : Nat → Prop} (w : World) (hM : Old M w) (bl : Nat → Addr) (hG : At M w (Gl bl)) (er : Er) (e : Value) (h : At M w (ErIs bl er e)) (hs : er.small) (c : Int) :
    Calls Tryd.prog 12 (List.toArray [e, .int .i64 c]) w (Ret No w fun v _ => v = .bool (decide (fc er = c) && decide (fp er = false) && decide (fo er = 0))) := by
  refine enter (n := 9) [(0, e), (1, .int .i64 c)] Tryd.func12 rfl (by kernel_rfl) ?_
  refine seq ?_
  refine region [true] ?_
  refine q_assign (v := .bool false) rfl rfl ?_
  refine done ?_
  refine thenN ?_
  refine seq ?_
  refine region [true, true, false, false, true] ?_
  refine q_move (v := e) rfl rfl ?_
  refine q_move (v := .int .i64 c) rfl rfl ?_
  refine l_call Keep.any rfl (bare_c w (M := No) (Old.no _) c) en26 rfl rfl (fun v_1 w1 s1 q_2 => ?_)
  have e0_1 : Evo M w w1 := s1.no
  have z1 : Evo No w w1 := s1.no
  obtain rfl := q_2
  refine l_call Keep.any rfl (seeSame_c (M := M) w1 (hM.on z1) bl (hG.on e0_1) er e (h.on e0_1) hs c false 0) en25 rfl rfl (fun v_3 w2 s2 q_4 => ?_)
  have e0_2 : Evo M w w2 := e0_1.trans s2.no
  have z2 : Evo No w w2 := z1.trans s2.no
  obtain rfl := q_4
  refine q_assign (v := .bool (decide (fc er = c) && decide (fp er = false) && decide (fo er = 0))) rfl rfl ?_
  refine done ?_
  refine thenN ?_
  refine wp_ret ?_
  refine ret1v (.bool (decide (fc er = c) && decide (fp er = false) && decide (fo er = 0))) rfl rfl ?_
  exact ⟨z2, rfl⟩
end Go.Proofs.YtnkafkikjcgogaaDoor
