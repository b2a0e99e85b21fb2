import Derived.Test.YtnkafkikjcgogaaDoorSxi
import Derived.Test.YtnkafkikjcgogaaDoorProg
import Derived.Test.YtnkafkikjcgogaaDoorCmod
import Derived.Test.YtnkafkikjcgogaaDoorVwE
/- Closed facts on the translation. -/
set_option maxRecDepth 100000
set_option linter.unusedVariables false
set_option linter.unusedSimpArgs false
namespace Go.Proofs.YtnkafkikjcgogaaDoor.FF
open Go.Sx
theorem mixed : Tryd.prog.follows .mixedOrders = true := by kernel_rfl
theorem ag31 : aggB Tryd.prog 31 = some 6 := by kernel_rfl
theorem ap49 : appB Tryd.prog 49 = some (5, 1, 1) := by kernel_rfl
theorem el22 : elemB Tryd.prog 22 = some (3, 1) := by kernel_rfl
theorem el49 : elemB Tryd.prog 49 = some (5, 1) := by kernel_rfl
theorem en36 : entB Tryd.prog 36 = true := by kernel_rfl
theorem en37 : entB Tryd.prog 37 = true := by kernel_rfl
theorem en38 : entB Tryd.prog 38 = true := by kernel_rfl
theorem en39 : entB Tryd.prog 39 = true := by kernel_rfl
theorem en40 : entB Tryd.prog 40 = true := by kernel_rfl
theorem fl55_0 : fldB Tryd.prog 55 0 = some 0 := by kernel_rfl
theorem fl64_0 : fldB Tryd.prog 64 0 = some 0 := by kernel_rfl
theorem fl64_1 : fldB Tryd.prog 64 1 = some 1 := by kernel_rfl
theorem in3 : Tryd.prog.underlying 3 = some (.int .i64) := by kernel_rfl
theorem in5 : Tryd.prog.underlying 5 = some (.int .u8) := by kernel_rfl
theorem in81 : Tryd.prog.underlying 81 = some (.int .u64) := by kernel_rfl
theorem ma53 : mapB Tryd.prog 53 = some (3, 64) := by kernel_rfl
theorem pl3 : plainB Tryd.prog 3 = true := by kernel_rfl
theorem pl53 : plainB Tryd.prog 53 = true := by kernel_rfl
theorem sz64 : szB Tryd.prog 64 = some 7 := by kernel_rfl
theorem un49 : Tryd.prog.underlying 49 = some (.slice 5) := by kernel_rfl
theorem ze64 : zeroB Tryd.prog 64 = some [.int .i64 0, .int .i64 0, .int .i64 0, .int .i64 0, .int .i64 0, .slice none 0 0, .slice none 0 0] := by kernel_rfl
theorem zv64 : ∀ w, (Go.zeroValue 64).run Tryd.prog w = .ok (.agg (List.toArray [.int .i64 0, .int .i64 0, .int .i64 0, .int .i64 0, .int .i64 0, .slice none 0 0, .slice none 0 0])) w := fun w => run_zeroV (by kernel_rfl) w
end Go.Proofs.YtnkafkikjcgogaaDoor.FF

set_option linter.unusedVariables false
set_option linter.unusedSimpArgs false
set_option maxRecDepth 4000
set_option maxHeartbeats 2000000
namespace Go.Proofs.YtnkafkikjcgogaaDoor
open Go.Sx FF

theorem vBytes_c {M : Nat → Prop} (w : World) (hM : Old M w) (bl : Nat → Addr) (hG : At M w (Gl bl)) (bv bm : Nat) (l : List (Int × Mani)) (V : Vw M bv bm l w) (hv : ∀ q ∈ l, maniErr q.2 = .ok) (hl : l.length ≤ 4096) :
    Calls Tryd.prog 18 (List.toArray [.pointer (some ⟨bv, 0, none⟩)]) w (Ret No w fun v w9 => ∃ a9 n9 c9, v = .slice a9 n9 c9 ∧ Own 1 5 ((viewB l).map encB) a9 n9 c9 w9 ∧ (∀ b, OwnB a9 b → w.heap.size ≤ b) ∧ n9 ≤ 2147483648) := by
  refine enter (n := 55) [(0, .pointer (some ⟨bv, 0, none⟩))] Tryd.func18 rfl (by kernel_rfl) ?_
  obtain ⟨L, hL, hR⟩ := V.map
  have hmlt := hL.lt
  have hLl := hR.len
  have hkeys := all2_keys hR
  have hkb : ∀ p ∈ L, 0 ≤ p.1 ∧ p.1 ≤ 2147483647 := fun p hp => by
    have h0 : p.1 ∈ L.map (·.1) := List.mem_map.2 ⟨p, hp, rfl⟩
    rw [hkeys] at h0
    obtain ⟨q, hq, e⟩ := List.mem_map.1 h0
    rw [← e]; exact V.ids q hq
  refine seq ?_
  refine region [true] ?_
  refine q_assign (v := .slice none 0 0) rfl rfl ?_
  refine done ?_
  refine thenN ?_
  refine seq ?_
  refine region [true, true, true, false, false, true, false, true] ?_
  refine q_move (v := .pointer (some ⟨bv, 0, none⟩)) rfl rfl ?_
  refine q_nilCheck rfl rfl ?_
  refine q_fieldAddr rfl rfl fl55_0 ?_
  refine l_loadB trivial rfl rfl pl53 (V.blk.now (Evo.refl M _)) rfl ?_
  refine l_lenM trivial rfl rfl ma53 hL ?_
  refine q_bvOf (k := .u64) (L.length : Int) rfl rfl rfl in3 in81 ?_
  refine l_call Keep.any rfl (put_c (M := M) w hM ([]) none 0 0 (fun w9 _ => Sl.nul 1 w9) (by omega) (BitVec.ofInt 64 (L.length : Int))) en36 rfl rfl (fun v_6 w1 s1 q_7 => ?_)
  have e0_1 : Evo M w w1 := s1.no
  have z1 : Evo No w w1 := s1.no
  have c_8 := hL.no s1
  obtain ⟨a_1, n_2, c_3, rfl, O_4, lo_5⟩ := q_7
  have lo_9 := own_up lo_5 (Evo.refl M _).size
  have lo_10 : ∀ b, OwnB a_1 b → w.heap.size ≤ b := lo_5
  have ob_11 : ∀ b0, OwnB a_1 b0 → b0 ≠ bm := fun b0 hb0 e0 => absurd (lo_5 b0 hb0) (by have h0 := hL.lt; omega)
  have hb_n_2 : n_2 ≤ 0 + 10 := put_bd (bs := ([])) O_4 (by simp) (putN_len10 (BitVec.isLt _))
  refine q_assign (v := .slice a_1 n_2 c_3) rfl rfl ?_
  refine done ?_
  refine thenN ?_
  refine seq ?_
  refine seq ?_
  refine region [true, true, true, false, false, false, true, true] ?_
  refine q_move (v := .pointer (some ⟨bv, 0, none⟩)) rfl rfl ?_
  refine q_nilCheck rfl rfl ?_
  refine q_fieldAddr rfl rfl fl55_0 ?_
  refine l_loadB trivial rfl rfl pl53 (V.blk.now e0_1) rfl ?_
  refine l_call Keep.any rfl (keys_c w1 (M := M) (hM.on z1) bm) en38 rfl rfl (fun v_13 w2 s2 q_14 => ?_)
  have e0_2 : Evo M w w2 := e0_1.trans s2.no
  have z2 : Evo No w w2 := z1.trans s2.no
  have c_15 := c_8.no s2
  have O_16 := O_4.no s2
  obtain ⟨kb_12, rfl, fkkb_12, nkkb_12⟩ := q_14
  refine l_call Keep.any rfl (sorted_c w2 (M := M) (hM.on z2) kb_12 bm L fkkb_12 c_15 hkb (by omega)) en37 rfl rfl (fun v_17 w3 s3 q_18 => ?_)
  have e0_3 : Evo M w w3 := e0_2.trans s3.no
  have z3 : Evo No w w3 := z2.trans s3.no
  have c_19 := c_15.no s3
  have c_20 := fkkb_12.no s3
  have O_21 := O_16.no s3
  obtain ⟨ia, in_, ic, rfl, OI, loI⟩ := q_18
  have lo_22 := own_up loI e0_2.size
  have lo_23 : ∀ b, OwnB ia b → w.heap.size ≤ b := own_up loI z2.size
  have D_24 : ∀ b, OwnB ia b → ¬ OwnB _ b := fun b hb hx => absurd (loI b hb) (by have h0 := O_16.lt b hx; omega)
  have ob_25 : ∀ b0, OwnB ia b0 → b0 ≠ bm := fun b0 hb0 e0 => absurd (loI b0 hb0) (by have h0 := c_15.lt; omega)
  refine q_len rfl rfl el22 ?_
  refine q_move (v := .int .i64 0) rfl rfl ?_
  refine done ?_
  refine thenN ?_
  refine blk ?_
  have hil : in_ = (sortI (L.map (·.1))).length := by have h0 := OI.len; rw [List.length_map] at h0; exact h0
  have hill : in_ ≤ 4096 := by rw [hil, sortI, List.length_mergeSort, List.length_map]; omega
  refine loopN [24, 25, 26, 5, 27, 28, 29, 30, 31, 32, 6, 34, 35, 36, 33, 37, 38, 7, 8, 39, 40, 41, 42, 43, 44, 3, 45, 46, 47, 48, 49, 50, 51, 52, 23] (fun k9 R9 wJ => ∃ (j : Nat), ∃ (ba : Option Addr), ∃ (bn : Nat), ∃ (bc : Nat), ∃ (bq : List UInt8), R9 = [(23, .int .i64 (j : Int)), (3, .slice ba bn bc)] ∧ (j ≤ in_) ∧ (bq = nB L.length ++ ((sortI (L.map (·.1))).take j).flatMap (segB l)) ∧ (bn ≤ 10 + 10021 * j) ∧ (Own 1 5 (bq.map encB) ba bn bc wJ) ∧ (∀ b, OwnB ba b → w.heap.size ≤ b) ∧ (MapB bm L wJ) ∧ (Own 1 3 ((sortI (L.map (·.1))).map encI) ia in_ ic wJ) ∧ (∀ b, OwnB ba b → ¬ OwnB ia b) ∧ (Evo No w wJ) ∧ k9 = in_ - j) ⟨_, _, ⟨0, a_1, n_2, c_3, (([]) ++ (nB (L.length : Int))), rfl, Nat.zero_le _, (by simp), by omega, O_21, lo_10, c_19, OI, (fun b hb hx => D_24 b hx hb), z3, rfl⟩, ⟨(by kernel_rfl), (by kernel_rfl), trivial⟩⟩ (fun k9 R9 u_26 w4 J_27 => ?_)
  obtain ⟨j, ba, bn, bc, bq, rfl, hj, hqb, hbb, Ob, lob, hLJ, OIj, dI, z9, rfl⟩ := J_27
  have e0_4 : Evo M w w4 := z9.no
  have hI : At M w4 (Sl 1 ((sortI (L.map (·.1))).map encI) ia in_ ic) := OIj.at_ (own_notM hM lo_23)
  have hbl : bn = bq.length := by have h0 := Ob.len; rw [List.length_map] at h0; exact h0
  refine seq ?_
  refine region [true] ?_
  refine q_lss rfl rfl rfl ?_
  refine done ?_
  refine thenN ?_
  refine seq ?_
  refine cond_b rfl (fun h_28 => ?_) (fun h_28 => ?_)
  · skip
    have h_28p := of_decide_eq_true h_28
    refine wp_skip ?_
    refine thenN ?_
    refine seq ?_
    refine blk ?_
    refine seq ?_
    refine region [true, false, true] ?_
    obtain ⟨x_29, hx_29⟩ := Sl.get (xs := (sortI (L.map (·.1)))) hI.here (i := (j : Int)) (by omega) (by omega)
    have Ax_29 := Sl.areaAt hI (Sl.map_get hx_29)
    refine q_indexS' rfl rfl rfl el22 (hI.here.there (by omega)).1 (by omega) (by omega) ?_
    refine l_load trivial rfl rfl pl3 ((Ax_29.now (Evo.refl M _)) 0 _ rfl) ?_
    refine q_assign (v := .int .i64 x_29) rfl rfl ?_
    refine done ?_
    refine thenN ?_
    refine seq ?_
    refine region [true, true, true, false, true, false, false, false] ?_
    refine q_move (v := .pointer (some ⟨bv, 0, none⟩)) rfl rfl ?_
    refine q_nilCheck rfl rfl ?_
    refine q_fieldAddr rfl rfl fl55_0 ?_
    refine l_loadB trivial rfl rfl pl53 (V.blk.now e0_4) rfl ?_
    refine q_move (v := .int .i64 x_29) rfl rfl ?_
    have hinq_30 : x_29 ∈ l.map fun q => q.2.id := by rw [← hkeys]; exact (List.mergeSort_perm _ _).mem_iff.1 (List.mem_of_getElem? hx_29)
    obtain ⟨q_30, csq_30, uq_30, hmq_30, aq_30, mq_30⟩ := vfound hR hinq_30
    have hokq_30 := hv q_30 hmq_30; have OKq_30 := maniOk hokq_30
    obtain ⟨eam_31, enm_31, ecm_31, oam_31, onm_31, ocm_31, rfl, eNm_31, oNm_31, hem_31, hom_31⟩ := Mrd.open mq_30
    refine l_lookup (v := .agg (List.toArray [.int .i64 q_30.1, .int .i64 q_30.2.id, .int .i64 q_30.2.base, .int .i64 q_30.2.end_, .int .i64 q_30.2.time, .slice eam_31 enm_31 ecm_31, .slice oam_31 onm_31 ocm_31])) trivial rfl rfl rfl ma53 hLJ zv64 (by rw [aq_30]; rfl) ?_
    refine l_alloc (M := M) Keep.any (hM.on z9) rfl ze64 (fun k_32 w5 s5 ck_32 nk_32 ok_32 => ?_)
    have lk_32_0 : w.heap.size ≤ k_32 := Nat.le_trans e0_4.size nk_32
    have lk_32_h : w4.heap.size ≤ k_32 := Nat.le_trans (Evo.refl M _).size nk_32
    have lk_32_w : w.heap.size ≤ k_32 := Nat.le_trans z9.size nk_32
    have hlbm_k_32 := hLJ.lt
    have ow3_k_32 := fun (b0 : Nat) hb0 (e0 : b0 = k_32) => (absurd (Ob.lt b0 hb0) (by omega) : False)
    have ow4_k_32 := fun (b0 : Nat) hb0 (e0 : b0 = k_32) => (absurd (OIj.lt b0 hb0) (by omega) : False)
    have e0_5 : Evo M w w5 := e0_4.trans s5.no
    have eh_5 : Evo M w4 w5 := s5.no
    have z5 : Evo No w w5 := z9.trans s5.no
    have c_33 := hLJ.no s5
    have O_34 := Ob.no s5
    have O_35 := OIj.no s5
    have hlk_32 := ck_32.lt
    refine l_store Keep.any rfl rfl ck_32 rfl sz64 rfl (Nat.le_of_ble_eq_true rfl) rfl (cs' := [.int .i64 q_30.1, .int .i64 q_30.2.id, .int .i64 q_30.2.base, .int .i64 q_30.2.end_, .int .i64 q_30.2.time, .slice eam_31 enm_31 ecm_31, .slice oam_31 onm_31 ocm_31]) rfl (fun w6 s6 c_36 => ?_)
    have e0_6 : Evo M w w6 := e0_5.fresh s6 lk_32_0
    have eh_6 : Evo M w4 w6 := eh_5.fresh s6 lk_32_h
    have z6 : Evo No w w6 := z5.fresh s6 lk_32_w
    have c_37 := c_33.on s6 (by first | omega | (intro h0; subst h0; omega))
    have O_38 := O_34.on s6 (ow3_k_32)
    have O_39 := O_35.on s6 (ow4_k_32)
    refine done ?_
    refine thenN ?_
    refine seq ?_
    refine region [true, false, false, true, true, true, true, true] ?_
    refine q_fieldAddr rfl rfl fl64_1 ?_
    refine l_loadBN ([.int .i64 q_30.2.id, .int .i64 q_30.2.base, .int .i64 q_30.2.end_, .int .i64 q_30.2.time, .slice eam_31 enm_31 ecm_31, .slice oam_31 onm_31 ocm_31]) trivial rfl rfl ag31 rfl c_36 rfl ?_
    refine l_call Keep.any rfl (maniBytes_c (M := M) w6 (hM.on z6) bl (hG.on e0_6) q_30.2 _ _ _ _ _ _ (hem_31.on e0_6) (hom_31.on e0_6) eNm_31 oNm_31 hokq_30 OKq_30.elen OKq_30.olen1 (fun o ho => valid_size (OKq_30.oall o ho).1)) en39 rfl rfl (fun v_45 w7 s7 q_46 => ?_)
    have e0_7 : Evo M w w7 := e0_6.trans s7.no
    have eh_7 : Evo M w4 w7 := eh_6.trans s7.no
    have z7 : Evo No w w7 := z6.trans s7.no
    have c_47 := c_37.no s7
    have c_48 := c_36.no s7
    have O_49 := O_38.no s7
    have O_50 := O_39.no s7
    obtain ⟨a_40, n_41, c_42, rfl, O_43, lo_44, hsn_41⟩ := q_46
    have lo_51 := own_up lo_44 e0_6.size
    have lo_52 := own_up lo_44 eh_6.size
    have lo_53 : ∀ b, OwnB a_40 b → w.heap.size ≤ b := own_up lo_44 z6.size
    have D_54 : ∀ b, OwnB a_40 b → ¬ OwnB _ b := fun b hb hx => absurd (lo_44 b hb) (by have h0 := O_38.lt b hx; omega)
    have D_55 : ∀ b, OwnB a_40 b → ¬ OwnB _ b := fun b hb hx => absurd (lo_44 b hb) (by have h0 := O_39.lt b hx; omega)
    have ob_56 : ∀ b0, OwnB a_40 b0 → b0 ≠ bm := fun b0 hb0 e0 => absurd (lo_44 b0 hb0) (by have h0 := c_37.lt; omega)
    have ob_57 : ∀ b0, OwnB a_40 b0 → b0 ≠ k_32 := fun b0 hb0 e0 => absurd (lo_44 b0 hb0) (by have h0 := c_36.lt; omega)
    have hmnq_30 : (n_41 : Int) = ((maniB q_30.2).length : Int) := by have h0 := O_43.len; rw [List.length_map] at h0; omega
    refine q_move (v := .tuple #[.slice a_40 n_41 c_42, .nilIface]) rfl rfl ?_
    refine q_extract rfl rfl rfl ?_
    refine q_extract rfl rfl rfl ?_
    refine q_assign (v := .slice a_40 n_41 c_42) rfl rfl ?_
    refine q_assign (v := .nilIface) rfl rfl ?_
    refine done ?_
    refine thenN ?_
    refine seq ?_
    refine region [true, true, false, true, false, false, true] ?_
    refine q_move (v := .slice ba bn bc) rfl rfl ?_
    refine q_fieldAddr rfl rfl fl64_0 ?_
    refine l_loadB trivial rfl rfl pl3 c_48 rfl ?_
    refine q_bvOf (k := .u8) q_30.1 rfl rfl rfl in3 in5 ?_
    refine l_buildSlice (M := M) (e := 5) (cs := [.int .u8 ((BitVec.ofInt 8 q_30.1).toNat : Int)]) Keep.any (hM.on z7) rfl rfl (fun _ => by kernel_rfl) (fun k_58 w8 s8 fk_58 nk_58 => ?_)
    have e0_8 : Evo M w w8 := e0_7.trans s8.no
    have eh_8 : Evo M w4 w8 := eh_7.trans s8.no
    have z8 : Evo No w w8 := z7.trans s8.no
    have c_59 := c_47.no s8
    have c_60 := c_48.no s8
    have O_61 := O_49.no s8
    have O_62 := O_50.no s8
    have O_63 := O_43.no s8
    refine l_append (k := 1) (news := [[.int .u8 ((BitVec.ofInt 8 q_30.1).toNat : Int)]]) Keep.any rfl rfl rfl ap49 O_61 (Src.of un49 (Sl.ofBlk (k := 1) (rows := [[.int .u8 ((BitVec.ofInt 8 q_30.1).toNat : Int)]]) (fk_58.now (Evo.refl M _)) rfl (by simp) rfl)) (Sl.ofBlk (k := 1) (rows := [[.int .u8 ((BitVec.ofInt 8 q_30.1).toNat : Int)]]) (fk_58.now (Evo.refl M _)) rfl (by simp) rfl).len (Sl.ofBlk (k := 1) (rows := [[.int .u8 ((BitVec.ofInt 8 q_30.1).toNat : Int)]]) (fk_58.now (Evo.refl M _)) rfl (by simp) rfl).shape (by omega) (by decide) (fun am_64 cm_64 w9 s9 Om_64 fm_64 nm_64 => ?_)
    have lom_64_0 := own_lo fm_64 lob e0_8.size
    have lom_64_w := own_lo fm_64 lob z8.size
    have e0_9 : Evo M w w9 := Evo.own e0_8 s9 lob
    have z9 : Evo No w w9 := Evo.own z8 s9 lob
    have O_65 := O_62.on s9 (fun b hb hx => dI b hx hb)
    have O_66 := O_63.on s9 (fun b hb hx => (fun b hb hx => D_54 b hx hb) b hx hb)
    have c_67 := c_59.on s9 (fun hb => absurd (lob _ hb) (by omega))
    have c_68 := c_60.on s9 (fun hb => ow3_k_32 _ hb rfl)
    have D_69 := own_dis fm_64 dI O_62.lt
    have D_70 := own_dis fm_64 (fun b hb hx => D_54 b hx hb) O_63.lt
    have O_71 : Own 1 5 ((bq ++ [stB q_30.1]).map encB) am_64 (bn + 1) cm_64 w9 := by rw [List.map_append]; exact Om_64
    refine q_assign (v := .slice am_64 (bn + 1) cm_64) rfl rfl ?_
    refine done ?_
    refine thenN ?_
    refine region [true, true, true, true, false, true, false, true] ?_
    refine q_move (v := .slice am_64 (bn + 1) cm_64) rfl rfl ?_
    refine q_move (v := .slice a_40 n_41 c_42) rfl rfl ?_
    refine q_len rfl rfl el49 ?_
    refine q_bvOf (k := .u64) (n_41 : Int) rfl rfl rfl in3 in81 ?_
    have hl_n_73 : bn + 1 = (bq ++ [stB q_30.1]).length := by have h0 := O_71.len; rw [List.length_map] at h0; exact h0
    refine l_call Keep.any rfl (put_c (M := M) w9 (hM.on z9) (bq ++ [stB q_30.1]) am_64 (bn + 1) cm_64 (O_71.at_ (own_notM hM lom_64_w)) (by omega) (BitVec.ofInt 64 (n_41 : Int))) en36 rfl rfl (fun v_77 w10 s10 q_78 => ?_)
    have e0_10 : Evo M w w10 := e0_9.trans s10.no
    have z10 : Evo No w w10 := z9.trans s10.no
    have c_79 := c_67.no s10
    have c_80 := c_68.no s10
    have O_81 := O_65.no s10
    have O_82 := O_66.no s10
    have O_83 := O_71.no s10
    obtain ⟨a_72, n_73, c_74, rfl, O_75, lo_76⟩ := q_78
    have lo_84 := own_up lo_76 e0_9.size
    have lo_85 : ∀ b, OwnB a_72 b → w.heap.size ≤ b := own_up lo_76 z9.size
    have D_86 : ∀ b, OwnB a_72 b → ¬ OwnB _ b := fun b hb hx => absurd (lo_76 b hb) (by have h0 := O_65.lt b hx; omega)
    have D_87 : ∀ b, OwnB a_72 b → ¬ OwnB _ b := fun b hb hx => absurd (lo_76 b hb) (by have h0 := O_66.lt b hx; omega)
    have ob_88 : ∀ b0, OwnB a_72 b0 → b0 ≠ bm := fun b0 hb0 e0 => absurd (lo_76 b0 hb0) (by have h0 := c_67.lt; omega)
    have ob_89 : ∀ b0, OwnB a_72 b0 → b0 ≠ k_32 := fun b0 hb0 e0 => absurd (lo_76 b0 hb0) (by have h0 := c_68.lt; omega)
    have hb_n_73 : n_73 ≤ 10 + 10021 * j + 1 + 10 := put_bd (bs := (bq ++ [stB q_30.1])) O_75 (by omega) (putN_len10 (BitVec.isLt _))
    refine q_move (v := .slice a_40 n_41 c_42) rfl rfl ?_
    refine l_append (k := 1) (news := ((maniB q_30.2).map encB)) Keep.any rfl rfl rfl ap49 O_75 (Src.of un49 O_82.sl) O_82.sl.len O_82.sl.shape (by omega) (by decide) (fun am_90 cm_90 w11 s11 Om_90 fm_90 nm_90 => ?_)
    have lom_90_0 := own_lo fm_90 lo_84 e0_10.size
    have lom_90_w := own_lo fm_90 lo_85 z10.size
    have e0_11 : Evo M w w11 := Evo.own e0_10 s11 lo_84
    have z11 : Evo No w w11 := Evo.own z10 s11 lo_85
    have O_91 := O_81.on s11 (fun b hb hx => D_86 b hx hb)
    have O_92 := O_82.on s11 (fun b hb hx => D_87 b hx hb)
    have c_93 := c_79.on s11 (fun hb => ob_88 _ hb rfl)
    have c_94 := c_80.on s11 (fun hb => ob_89 _ hb rfl)
    have D_95 := own_dis fm_90 D_86 O_81.lt
    have D_96 := own_dis fm_90 D_87 O_82.lt
    have O_97 : Own 1 5 ((((bq ++ [stB q_30.1]) ++ (nB (n_41 : Int))) ++ (maniB q_30.2)).map encB) am_90 (n_73 + n_41) cm_90 w11 := by rw [List.map_append]; exact Om_90
    refine q_assign (v := .slice am_90 (n_73 + n_41) cm_90) rfl rfl ?_
    refine done ?_
    refine blkN ?_
    refine thenN ?_
    refine region [true, true] ?_
    refine q_add rfl rfl rfl (wi64 (by omega) (by omega)) ?_
    refine q_move (v := .int .i64 ((j : Int) + 1)) rfl rfl ?_
    refine done ?_
    refine thenN ?_
    have hqn : (((bq ++ [stB q_30.1]) ++ (nB (n_41 : Int))) ++ (maniB q_30.2)) = nB L.length ++ ((sortI (L.map (·.1))).take (j + 1)).flatMap (segB l) := by rw [flat_snoc (j := j) hx_29, seg_some uq_30, ← hmnq_30, hqb]; simp [stB]
    have O8 := O_97
    refine ⟨_, _, ?_, ⟨j + 1, am_90, (n_73 + n_41), cm_90, (((bq ++ [stB q_30.1]) ++ (nB (n_41 : Int))) ++ (maniB q_30.2)), rfl, by omega, hqn, by omega, (by simpa only [List.map_append] using O8), lom_90_w, c_93, O_91, D_95, z11, rfl⟩, Env.near_at 73 (by kernel_rfl) (by kernel_rfl) ⟨(by kernel_rfl), (by kernel_rfl), trivial⟩⟩
    omega
  · skip
    have h_28p := of_decide_eq_false h_28
    refine wp_exit ?_
    refine thenX ?_
    refine thenX ?_
    refine blkX ?_
    refine thenN ?_
    refine seq ?_
    refine region [true, false, true] ?_
    refine q_move (v := .slice ba bn bc) rfl rfl ?_
    have hbody : bq = vbody l (sortI (l.map fun q => q.2.id)) := by rw [hqb, List.take_of_length_le (by omega), hkeys, hLl]; rfl
    refine l_call Keep.any rfl (seal_c (M := M) w4 (hM.on z9) bq _ _ _ (Ob.at_ (own_notM hM lob)) (by omega)) en40 rfl rfl (fun v_98 w5 s5 q_99 => ?_)
    have e0_5 : Evo M w w5 := e0_4.trans s5.no
    have eh_5 : Evo M w4 w5 := s5.no
    have z5 : Evo No w w5 := z9.trans s5.no
    have c_100 := hLJ.no s5
    have O_101 := Ob.no s5
    have O_102 := OIj.no s5
    obtain ⟨a1, n1, c1, rfl, O1, lo1⟩ := q_99
    have lo_103 := own_up lo1 e0_4.size
    have lo_104 := own_up lo1 (Evo.refl M _).size
    have lo_105 : ∀ b, OwnB a1 b → w.heap.size ≤ b := own_up lo1 z9.size
    have ob_106 : ∀ b0, OwnB a1 b0 → b0 ≠ bm := fun b0 hb0 e0 => absurd (lo1 b0 hb0) (by have h0 := hLJ.lt; omega)
    refine q_assign (v := .slice a1 n1 c1) rfl rfl ?_
    refine done ?_
    refine thenN ?_
    refine wp_ret ?_
    refine ret1v (.slice a1 n1 c1) rfl rfl ?_
    have hn1 : n1 ≤ 2147483648 := by have h0 := O1.len; rw [List.length_map, sealM_len] at h0; omega
    exact ⟨z5, _, _, _, rfl, by unfold viewB; rw [← hbody]; exact O1, lo_105, hn1⟩
end Go.Proofs.YtnkafkikjcgogaaDoor
