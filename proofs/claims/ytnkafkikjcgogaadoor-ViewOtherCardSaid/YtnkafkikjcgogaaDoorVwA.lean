import Derived.Test.YtnkafkikjcgogaaDoorSxg
import Derived.Test.YtnkafkikjcgogaaDoorFA
import Derived.Test.YtnkafkikjcgogaaDoorProg
import Derived.Test.YtnkafkikjcgogaaDoorSrt
import Derived.Test.YtnkafkikjcgogaaDoorVwS
import Derived.Test.YtnkafkikjcgogaaDoorVw3
import Derived.Test.YtnkafkikjcgogaaDoorVw4
set_option linter.unusedVariables false
set_option linter.unusedSimpArgs false
set_option maxRecDepth 4000
set_option maxHeartbeats 2000000
namespace Go.Proofs.YtnkafkikjcgogaaDoor
open Go.Sx FA

theorem vIn_c {M : Nat → Prop} (w : World) (hM : Old M w) (bv bm : Nat) (l : List (Int × Mani)) (V : Vw M bv bm l w) (hl : l.length ≤ 4096) (ss : List Int) (sa : Option Addr) (sn sc : Nat) (hS : At M w (Sl 1 (ss.map encI) sa sn sc)) (hsn : sn ≤ 2147483648) :
    Calls Tryd.prog 13 (List.toArray [.pointer (some ⟨bv, 0, none⟩), .slice sa sn sc]) w (Ret No w fun v w9 => ∃ a n c, ∃ zs : List MC, v = .slice a n c ∧ (zs.map MC.m).Perm ((l.filter (fun q : Int × Mani => ss.any fun y => decide (q.1 = y))).map (·.2)) ∧ zs.Pairwise (fun x y => ¬ ahead y.m x.m) ∧ At M w9 (Sl 6 (zs.map encMC) a n c) ∧ ∀ x ∈ zs, At M w9 (Mrd x.m x.enc)) := by
  refine enter (n := 30) [(0, .pointer (some ⟨bv, 0, none⟩)), (1, .slice sa sn sc)] Tryd.func13 rfl (by kernel_rfl) ?_
  obtain ⟨L, hL, hR⟩ := V.map
  have hmlt := hL.lt
  refine seq ?_
  refine region [true] ?_
  refine q_assign (v := .slice none 0 0) rfl rfl ?_
  refine done ?_
  refine thenN ?_
  refine seq ?_
  refine region [true] ?_
  refine q_assign (v := .slice none 0 0) rfl rfl ?_
  refine done ?_
  refine thenN ?_
  refine seq ?_
  refine seq ?_
  refine region [true, true, true, false, false] ?_
  refine q_move (v := .pointer (some ⟨bv, 0, none⟩)) rfl rfl ?_
  refine q_nilCheck rfl rfl ?_
  refine q_fieldAddr rfl rfl fl55_0 ?_
  refine l_loadB trivial rfl rfl pl53 (V.blk.now (Evo.refl M _)) rfl ?_
  refine l_range Keep.any rfl rfl ma53 hL (fun k_1 w1 s1 ck_1 nk_1 => ?_)
  have hbk_1 := hL.lt
  have lk_1_0 : w.heap.size ≤ k_1 := Nat.le_trans (Evo.refl M _).size nk_1
  have lk_1_w : w.heap.size ≤ k_1 := nk_1
  have e0_1 : Evo M w w1 := s1.no
  have z1 : Evo No w w1 := s1.no
  have c_2 := hL.no s1
  refine done ?_
  refine thenN ?_
  refine blk ?_
  refine loopN [13, 14, 15, 16, 7, 17, 18, 19, 20, 21, 22, 23, 24, 25, 26, 5] (fun k9 R9 wJ => ∃ (f9 : List (Int × Value)), ∃ (lq : List (Int × Mani)), ∃ (cu : Option (Int × Value)), ∃ (ys : List MC), ∃ (b9 : Option Addr), ∃ (n9 : Nat), ∃ (d9 : Nat), R9 = [(5, .slice b9 n9 d9)] ∧ (ItB k_1 bm L f9 cu wJ) ∧ (All2 (RV M w) f9 lq) ∧ (∀ q ∈ lq, q ∈ l) ∧ ((ys.map MC.m ++ (lq.filter (fun q : Int × Mani => ss.any fun y => decide (q.1 = y))).map (·.2)).Perm ((l.filter (fun q : Int × Mani => ss.any fun y => decide (q.1 = y))).map (·.2))) ∧ (n9 + lq.length ≤ l.length) ∧ (Own 6 31 (ys.map MC.enc) b9 n9 d9 wJ) ∧ (∀ b, OwnB b9 b → w.heap.size ≤ b) ∧ (∀ b, OwnB b9 b → b ≠ k_1) ∧ (∀ x ∈ ys, At (OwnM (Plus M k_1) b9) wJ (Mrd x.m x.enc)) ∧ (Evo No w wJ) ∧ k9 = f9.length) ⟨_, _, ⟨L, l, none, [], none, 0, 0, rfl, ck_1, hR, fun _ h => h, (by simp), by omega, Own.nil _ _ _, own_lo_none, (fun b hb => absurd rfl hb.1), by simp, z1, rfl⟩, ⟨(by kernel_rfl), trivial⟩⟩ (fun k9 R9 u_3 w2 J_4 => ?_)
  obtain ⟨f9, lq, cu, ys, b9, n9, d9, rfl, ci9, hR9, hin9, hP9, hl9, O9, lo9, ni9, hY9, z9, rfl⟩ := J_4
  have e0_2 : Evo M w w2 := z9.no
  have hlbi := ci9.lt
  refine seq ?_
  refine region [false, true] ?_
  refine l_next trivial Keep.any rfl rfl ci9 (fun en_5 => ?_) (fun kn_5 vn_5 fn_5 w3 pn_5 s3 cn_5 => ?_)
  · skip
    refine q_extract rfl rfl rfl ?_
    refine done ?_
    refine thenN ?_
    refine seq ?_
    refine cond_f rfl ?_
    refine wp_exit ?_
    refine thenX ?_
    refine thenX ?_
    refine blkX ?_
    refine thenN ?_
    refine seq ?_
    refine region [true, false] ?_
    refine q_move (v := .slice b9 n9 d9) rfl rfl ?_
    have hn9 : n9 ≤ 1048576 := by omega
    refine l_call Keep.any rfl (sort_c closure_c w2 ys b9 n9 d9 O9 hn9) en28 rfl rfl (fun v9 w3 s3 hq9 => ?_)
    have e0_3 : Evo M w w3 := Evo.own e0_2 s3 lo9
    have eo_3 : Evo (OwnM (Plus M k_1) b9) w2 w3 := Evo.fstep (Evo.refl (OwnM (Plus M k_1) b9) _) s3 (fun _ _ hb => .inr hb)
    have z3 : Evo No w w3 := Evo.own z9 s3 lo9
    have c_6 := ci9.on s3 (fun hb => ni9 _ hb rfl) (fun hb => absurd (lo9 _ hb) (by omega))
    obtain ⟨zs, hp9, hs9, Oz9⟩ := hq9
    refine done ?_
    refine thenN ?_
    refine seq ?_
    refine region [true, true] ?_
    refine q_move (v := .slice b9 n9 d9) rfl rfl ?_
    refine q_assign (v := .slice b9 n9 d9) rfl rfl ?_
    refine done ?_
    refine thenN ?_
    refine wp_ret ?_
    refine ret1v (.slice b9 n9 d9) rfl rfl ?_
    have hlq : lq = [] := by subst en_5; cases lq <;> first | rfl | exact hR9.elim
    subst hlq
    simp only [List.filter_nil, List.map_nil, List.append_nil] at hP9
    exact ⟨z3, b9, n9, d9, zs, rfl, (hp9.map MC.m).trans hP9, hs9, by rw [← MC.enc_eq]; exact Oz9.at_ (own_notM hM lo9), fun x hx => (((hY9 x (hp9.mem_iff.1 hx)).on (Evo.refl (OwnM (Plus M k_1) b9) _)).own s3 (.inl rfl)).ownless.to (fun _ _ h => .inl h)⟩
  · skip
    have e0_3 : Evo M w w3 := e0_2.fresh s3 lk_1_0
    have eo_3 : Evo (OwnM (Plus M k_1) b9) w2 w3 := (Evo.refl (OwnM (Plus M k_1) b9) _).fstep s3 (inX (.inl Plus.in))
    have z3 : Evo No w w3 := z9.fresh s3 lk_1_w
    have O_7 := O9.on s3 (ni9)
    obtain ⟨qn_5, gn_5, Pn_5, ⟨rfl, csn_5, rfl, mn_5⟩, Rn_5⟩ := next2 hR9 pn_5
    have in_5 := hin9 qn_5 (Pn_5.mem_iff.2 (by simp))
    have bn_5 := V.ids qn_5 in_5
    obtain ⟨eam_8, enm_8, ecm_8, oam_8, onm_8, ocm_8, rfl, eNm_8, oNm_8, hem_8, hom_8⟩ := Mrd.open mn_5
    refine q_extract rfl rfl rfl ?_
    refine done ?_
    refine thenN ?_
    refine seq ?_
    refine cond_t rfl ?_
    refine wp_skip ?_
    refine thenN ?_
    refine blk ?_
    refine seq ?_
    refine region [false, true, false, false] ?_
    refine l_entry trivial rfl rfl cn_5 ?_
    refine q_extract rfl rfl rfl ?_
    refine l_alloc (M := (OwnM (Plus M k_1) b9)) Keep.any ((Old.ownM ((hM.on z9).plus hlbi) O9).on eo_3) rfl ze64 (fun k_9 w4 s4 ck_9 nk_9 ok_9 => ?_)
    have lk_9_0 : w.heap.size ≤ k_9 := Nat.le_trans e0_3.size nk_9
    have lk_9_o : w2.heap.size ≤ k_9 := Nat.le_trans eo_3.size nk_9
    have lk_9_w : w.heap.size ≤ k_9 := Nat.le_trans z3.size nk_9
    have hlk_1_k_9 := cn_5.lt
    have ow1_k_9 := fun (b0 : Nat) hb0 (e0 : b0 = k_9) => (absurd (O_7.lt b0 hb0) (by omega) : False)
    have e0_4 : Evo M w w4 := e0_3.trans s4.no
    have eo_4 : Evo (OwnM (Plus M k_1) b9) w2 w4 := eo_3.trans s4.no
    have z4 : Evo No w w4 := z3.trans s4.no
    have c_10 := cn_5.no s4
    have O_11 := O_7.no s4
    have hlk_9 := ck_9.lt
    refine l_store Keep.any rfl rfl ck_9 rfl sz64 rfl (Nat.le_of_ble_eq_true rfl) rfl (cs' := [.int .i64 qn_5.1, .int .i64 qn_5.2.id, .int .i64 qn_5.2.base, .int .i64 qn_5.2.end_, .int .i64 qn_5.2.time, .slice eam_8 enm_8 ecm_8, .slice oam_8 onm_8 ocm_8]) rfl (fun w5 s5 c_12 => ?_)
    have e0_5 : Evo M w w5 := e0_4.fresh s5 lk_9_0
    have eo_5 : Evo (OwnM (Plus M k_1) b9) w2 w5 := eo_4.fresh s5 lk_9_o
    have z5 : Evo No w w5 := z4.fresh s5 lk_9_w
    have c_13 := c_10.on s5 (by first | omega | (intro h0; subst h0; omega)) (by first | omega | (intro h0; subst h0; omega))
    have O_14 := O_11.on s5 (ow1_k_9)
    refine done ?_
    refine thenN ?_
    refine seq ?_
    refine region [true, true, false, false] ?_
    refine q_move (v := .slice sa sn sc) rfl rfl ?_
    refine q_fieldAddr rfl rfl fl64_0 ?_
    refine l_loadB trivial rfl rfl pl3 c_12 rfl ?_
    refine l_call Keep.any rfl (hasInts_c (M := M) w5 ss _ _ _ (hS.on e0_5) hsn qn_5.1) en27 rfl rfl (fun v_15 w6 s6 q_16 => ?_)
    have e0_6 : Evo M w w6 := e0_5.trans s6.no
    have eo_6 : Evo (OwnM (Plus M k_1) b9) w2 w6 := eo_5.trans s6.no
    have z6 : Evo No w w6 := z5.trans s6.no
    have c_17 := c_13.no s6
    have c_18 := c_12.no s6
    have O_19 := O_14.no s6
    obtain rfl := q_16
    refine done ?_
    refine thenN ?_
    refine cond_b rfl (fun h_20 => ?_) (fun h_20 => ?_)
    · skip
      refine region [true, true, false, false, false, false, true] ?_
      refine q_move (v := .slice b9 n9 d9) rfl rfl ?_
      refine q_fieldAddr rfl rfl fl64_1 ?_
      refine l_loadBN ([.int .i64 qn_5.2.id, .int .i64 qn_5.2.base, .int .i64 qn_5.2.end_, .int .i64 qn_5.2.time, .slice eam_8 enm_8 ecm_8, .slice oam_8 onm_8 ocm_8]) trivial rfl rfl ag31 rfl c_18 rfl ?_
      refine l_call Keep.any rfl (maniClone_c (M := (OwnM (Plus M k_1) b9)) w6 ((Old.ownM ((hM.on z9).plus hlbi) O9).on eo_6) qn_5.2 _ _ _ _ _ _ (At.up (N := (OwnM (Plus M k_1) b9)) hem_8 e0_6 (ownUp2 lo9 lk_1_w)) (At.up (N := (OwnM (Plus M k_1) b9)) hom_8 e0_6 (ownUp2 lo9 lk_1_w)) eNm_8 oNm_8) en24 rfl rfl (fun v_24 w7 s7 q_25 => ?_)
      have e0_7 : Evo M w w7 := e0_6.trans s7.no
      have eo_7 : Evo (OwnM (Plus M k_1) b9) w2 w7 := eo_6.trans s7.no
      have z7 : Evo No w w7 := z6.trans s7.no
      have c_26 := c_17.no s7
      have c_27 := c_18.no s7
      have O_28 := O_19.no s7
      obtain ⟨cs_21, rfl, hC_22⟩ := q_25
      obtain ⟨eam_23, enm_23, ecm_23, oam_23, onm_23, ocm_23, rfl, eNm_23, oNm_23, hem_23, hom_23⟩ := Mrd.open hC_22
      refine l_buildSlice (M := (OwnM (Plus M k_1) b9)) (e := 31) (cs := [.int .i64 qn_5.2.id, .int .i64 qn_5.2.base, .int .i64 qn_5.2.end_, .int .i64 qn_5.2.time, .slice eam_23 enm_23 ecm_23, .slice oam_23 onm_23 ocm_23]) Keep.any ((Old.ownM ((hM.on z9).plus hlbi) O9).on eo_7) rfl rfl (fun _ => by kernel_rfl) (fun k_29 w8 s8 fk_29 nk_29 => ?_)
      have e0_8 : Evo M w w8 := e0_7.trans s8.no
      have eo_8 : Evo (OwnM (Plus M k_1) b9) w2 w8 := eo_7.trans s8.no
      have e7_8 : Evo (OwnM (Plus M k_1) b9) w7 w8 := s8.no
      have z8 : Evo No w w8 := z7.trans s8.no
      have c_30 := c_26.no s8
      have c_31 := c_27.no s8
      have O_32 := O_28.no s8
      refine l_append (k := 6) (news := [[.int .i64 qn_5.2.id, .int .i64 qn_5.2.base, .int .i64 qn_5.2.end_, .int .i64 qn_5.2.time, .slice eam_23 enm_23 ecm_23, .slice oam_23 onm_23 ocm_23]]) Keep.any rfl rfl rfl ap39 O_32 (Src.of un39 (Sl.ofBlk (k := 6) (rows := [[.int .i64 qn_5.2.id, .int .i64 qn_5.2.base, .int .i64 qn_5.2.end_, .int .i64 qn_5.2.time, .slice eam_23 enm_23 ecm_23, .slice oam_23 onm_23 ocm_23]]) (fk_29.now (Evo.refl (OwnM (Plus M k_1) b9) _)) rfl (by simp) rfl)) (Sl.ofBlk (k := 6) (rows := [[.int .i64 qn_5.2.id, .int .i64 qn_5.2.base, .int .i64 qn_5.2.end_, .int .i64 qn_5.2.time, .slice eam_23 enm_23 ecm_23, .slice oam_23 onm_23 ocm_23]]) (fk_29.now (Evo.refl (OwnM (Plus M k_1) b9) _)) rfl (by simp) rfl).len (Sl.ofBlk (k := 6) (rows := [[.int .i64 qn_5.2.id, .int .i64 qn_5.2.base, .int .i64 qn_5.2.end_, .int .i64 qn_5.2.time, .slice eam_23 enm_23 ecm_23, .slice oam_23 onm_23 ocm_23]]) (fk_29.now (Evo.refl (OwnM (Plus M k_1) b9) _)) rfl (by simp) rfl).shape (by omega) (by decide) (fun am_33 cm_33 w9 s9 Om_33 fm_33 nm_33 => ?_)
      have lom_33_0 := own_lo fm_33 lo9 e0_8.size
      have lom_33_w := own_lo fm_33 lo9 z8.size
      have e0_9 : Evo M w w9 := Evo.own e0_8 s9 lo9
      have eo_9 : Evo (OwnM (Plus M k_1) b9) w2 w9 := Evo.fstep eo_8 s9 (fun _ _ hb => .inr hb)
      have e7_9 : Evo (OwnM (Plus M k_1) b9) w7 w9 := Evo.fstep e7_8 s9 (fun _ _ hb => .inr hb)
      have e8_9 : Evo (OwnM (Plus M k_1) b9) w8 w9 := Evo.fstep (Evo.refl (OwnM (Plus M k_1) b9) _) s9 (fun _ _ hb => .inr hb)
      have z9 : Evo No w w9 := Evo.own z8 s9 lo9
      have c_34 := c_30.on s9 (fun hb => ni9 _ hb rfl) (fun hb => absurd (lo9 _ hb) (by omega))
      have c_35 := c_31.on s9 (fun hb => ow1_k_9 _ hb rfl)
      refine q_assign (v := .slice am_33 (n9 + 1) cm_33) rfl rfl ?_
      refine done ?_
      refine blkN ?_
      refine thenN ?_
      have hlen := pn_5.length_eq; simp only [List.length_cons] at hlen
      have hqn := Pn_5.length_eq; simp only [List.length_cons] at hqn
      have X9 : ∃ x : MC, x.m = qn_5.2 ∧ x.enc = [.int .i64 qn_5.2.id, .int .i64 qn_5.2.base, .int .i64 qn_5.2.end_, .int .i64 qn_5.2.time, .slice eam_23 enm_23 ecm_23, .slice oam_23 onm_23 ocm_23] := ⟨⟨(qn_5.2, [.int .i64 qn_5.2.id, .int .i64 qn_5.2.base, .int .i64 qn_5.2.end_, .int .i64 qn_5.2.time, .slice eam_23 enm_23 ecm_23, .slice oam_23 onm_23 ocm_23]), bn_5.1, bn_5.2, _, _, rfl, rfl, rfl⟩, rfl, rfl⟩
      obtain ⟨x9, hx9, hc9⟩ := X9
      have hf9 : (gn_5.filter (fun q : Int × Mani => ss.any fun y => decide (q.1 = y))) = (gn_5.filter (fun q : Int × Mani => ss.any fun y => decide (q.1 = y))) := rfl
      refine ⟨_, _, ?_, ⟨fn_5, gn_5, _, ys ++ [x9], am_33, (n9 + 1), cm_33, rfl, c_34, Rn_5, fun q h => hin9 q (Pn_5.mem_iff.2 (by simp [h])), (by have h8 := (Pn_5.filter (fun q : Int × Mani => ss.any fun y => decide (q.1 = y))).map (·.2); rw [List.filter_cons, if_pos (show (fun q : Int × Mani => ss.any fun y => decide (q.1 = y)) qn_5 = true from h_20), List.map_cons] at h8; refine List.Perm.trans ?_ hP9; rw [List.map_append, List.append_assoc]; exact (List.Perm.append_left _ (by simpa [hx9] using h8)).symm), by omega, (by rw [List.map_append, show [x9].map MC.enc = [[.int .i64 qn_5.2.id, .int .i64 qn_5.2.base, .int .i64 qn_5.2.end_, .int .i64 qn_5.2.time, .slice eam_23 enm_23 ecm_23, .slice oam_23 onm_23 ocm_23]] from by rw [List.map_cons, hc9]; rfl]; exact Om_33), lom_33_w, (own_ne fm_33 ni9 (Nat.lt_of_lt_of_le hlbi eo_8.size)), (fun x hx => (List.mem_append.1 hx).elim (fun h7 => ((hY9 x h7).on eo_8).own s9 fm_33) (fun h7 => by rw [List.mem_singleton] at h7; subst h7; rw [hx9, hc9]; exact (hC_22.on e7_8).own s9 fm_33)), z9, rfl⟩, Env.near_at 33 (by kernel_rfl) (by kernel_rfl) ⟨(by kernel_rfl), trivial⟩⟩
      omega
    · skip
      refine wp_skip ?_
      refine blkN ?_
      refine thenN ?_
      have hlen := pn_5.length_eq; simp only [List.length_cons] at hlen
      have hqn := Pn_5.length_eq; simp only [List.length_cons] at hqn
      refine ⟨_, _, ?_, ⟨fn_5, gn_5, _, ys, b9, n9, d9, rfl, c_17, Rn_5, fun q h => hin9 q (Pn_5.mem_iff.2 (by simp [h])), (by have h8 := (Pn_5.filter (fun q : Int × Mani => ss.any fun y => decide (q.1 = y))).map (·.2); rw [List.filter_cons, if_neg (show ¬ (fun q : Int × Mani => ss.any fun y => decide (q.1 = y)) qn_5 = true from by rw [show (fun q : Int × Mani => ss.any fun y => decide (q.1 = y)) qn_5 = _ from h_20]; simp)] at h8; exact (List.Perm.append_left _ h8.symm).trans hP9), by omega, O_19, lo9, ni9, (fun x hx => (hY9 x hx).on eo_6), z6, rfl⟩, Env.near_at 26 (by kernel_rfl) (by kernel_rfl) ⟨(by kernel_rfl), trivial⟩⟩
      omega
end Go.Proofs.YtnkafkikjcgogaaDoor
